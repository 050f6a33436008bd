/- Shaken out of XD4 XD5 XD6 XD9 XDa XD8 XDb -/
import Derived.Test.YtflmjdjkfognjaaGreatTp35
import Derived.Test.YtflmjdjkfognjaaGreatTp15
import Derived.Test.YtflmjdjkfognjaaGreatShelf
import Derived.Deep.RegionHeld3
import Derived.RegionTactic
import Derived.BigRegion
import Derived.Test.YtflmjdjkfognjaaGreatTp08
import Derived.Test.YtflmjdjkfognjaaGreatTp06
import Derived.Test.YtflmjdjkfognjaaGreatTp34
namespace Go.Proofs.YtflmjdjkfognjaaGreat.C9
open Go.RowKit W8
set_option linter.unusedVariables false
/-- strings as cells -/
def ssD (x : List UInt8) : List Value := [.string (str x)]
theorem ssD_len (x : List UInt8) : (ssD x).length = 1 := rfl
theorem ssD_one (x : List UInt8) : ∀ u ∈ ssD x, u.oneCell' = true := fun u hu => by
  simp only [ssD, List.mem_singleton] at hu
  subst hu
  rfl
def RdStr (w : World) (v : Value) (l : List (List UInt8)) : Prop := RdD [] ssD 1 w v l
theorem ss_append (l : List (List UInt8)) (x : List UInt8) : flD ssD (l ++ [x]) = flD ssD l ++ [.string (str x)] := by rw [flD_append, flD_single]; rfl
theorem Tryz.infoStr9 : (Tryz.prog.info? 9).map (fun i => (i.zero, i.size, i.bytes)) = some (some (.string ⟨#[]⟩), 1, 16) := by kernel_rfl
theorem Tryz.infoRow28 : (Tryz.prog.info? 179).map (fun i => (i.zero, i.size, i.bytes)) = some (some (.agg (bs (List.replicate 28 0)).toArray), 28, 28) := by kernel_rfl
def EncP (R : List (List UInt8) × Int) (w : World) (e : Ending) (w' : World) : Prop := ∃ v, e = .returned (.tuple #[v, .int .i64 R.2]) ∧ w'.ownsRow w.heap.size 9 1 v R.1.length (flD ssD R.1) ∧ Below w.heap.size w w'
theorem EncP.none (c : Int) {w : World} {e : Ending} {w' : World} (he : e = .returned (.tuple #[.slice none 0 0, .int .i64 c])) (hb : Below w.heap.size w w') : EncP ([], c) w e w' := ⟨_, he, ⟨rfl, .inl ⟨rfl, rfl⟩⟩, hb⟩
/-- 's[lo:hi]' of a string -/
theorem run_cut9 {P : Program} {t : TypeId} (ht : P.underlying t = some .string) (l : List UInt8) (lo hi : Nat) (h1 : lo ≤ hi) (h2 : hi ≤ l.length) (x y : Int) (hx : x = lo) (hy : y = hi) (w : World) :
    (Instr.slice t (.string (str l)) (some (.int .i64 x)) (some (.int .i64 y)) none).run P w = .ok (.string (str ((l.drop lo).take (hi - lo)))) w := by
  subst hx hy
  have e : (str l).extract lo hi = str ((l.drop lo).take (hi - lo)) := by
    apply ByteArray.ext
    rw [ByteArray.data_extract]
    simp [str]
  simp [Instr.slice, run_underlying ht, Instr.sliceBounds, run_sliceBound, str_size, h2, h1, e]
theorem made_same (z : Array Value) (c : Value) (hz : 0 < z.size) (h : ∀ i, i < z.size → z[i]! = c) (n : Nat) : (madeCells z n).toList = List.replicate n c := by
  apply List.ext_getElem
  · simp [madeCells]
  · intro i h1 h2
    simp only [madeCells, Array.toList_map, List.getElem_map, List.getElem_replicate]
    exact h _ (Nat.mod_lt _ hz)
theorem made_rep (m : Nat) (hm : 0 < m) (n : Nat) : (madeCells (bs (List.replicate m 0)).toArray n).toList = List.replicate n (B 0) :=
  made_same (bs (List.replicate m 0)).toArray (B 0) (by simpa [bs] using hm) (fun i hi => by
    have hi' : i < m := by simpa [bs] using hi
    simp [bs, hi']) _
/-- 'make([][28]byte, n)' -/
theorem wpList_mkRows {P : Program} {w : World} {ops : Array Oper} {rest : List Oper} {o : Oper} {a : Act} {Q : Exit → Act → World → Prop}
    (hg : o.guard = none) (l c : Operand) {t : TypeId} (hop : o.op = Op.makeSlice t l c)
    {e : TypeId} (h1 : P.underlying t = some (.slice e)) (h2 : (P.info? e).map (fun i => (i.zero, i.size, i.bytes)) = some (some (.agg (bs (List.replicate 28 0)).toArray), 28, 28))
    {L C : Int} (n : Nat) (hl : a.eval l = .int .i64 L) (hc : a.eval c = .int .i64 C) (hL : L = (n : Int)) (hC : C = (n : Int)) (b3 : n ≤ 1000000)
    (hK : ∀ w', Bx w' w.heap.size e (bs (List.replicate (n * 28) 0)) → Below w.heap.size w w' → wpList P ops Q rest (a.put o.dst (.slice (some ⟨w.heap.size, 0, none⟩) n n)) w') :
    wpList P ops Q (o :: rest) a w := by
  obtain ⟨i0, hi, hz0, hz1, hz2⟩ := info_parts h2
  refine wpList_make_full w hg l c t hop w.heap.size e i0 _ 28 h1 hi hz0 hz1 .i64 .i64 L C n hl hc hL hC (by rw [hz2]; omega) (by unfold maxLen; omega) (Nat.le_refl _) fun w' h3 h4 => hK w' ?_ ((Below.refl _ _).grown h4 (Nat.le_refl _) (fun k hk => by cases hk))
  have e1 : (madeCells (Value.agg (bs (List.replicate 28 0)).toArray).cells (n * 28)).toList = bs (List.replicate (n * 28) 0) := by
    rw [bs_replicate (n * 28)]
    exact made_rep 28 (by omega) _
  rw [e1] at h3
  exact Bx.ofOwn h3
set_option maxRecDepth 100000 in
set_option maxHeartbeats 1000000 in
theorem pencode_arg (d : List UInt8) (w : World) (hl : d.length ≤ 9223372036854775807) (h : d.length = 0 ∨ d.length % 24 ≠ 0) : Calls Tryz.prog 30 #[.string (str d)] w (EncP ([], 1) w) := by
  have hs := str_size d
  generalize d.length = n at *
  by_cases h0 : n / 24 = 0
  · have hq : (((n : Int) / 24) == 0) = true := by rw [beq_iff_eq]; omega
    clear h h0
    go_enter Tryz.func30, Tryz.ntmps30
    go_wp2_with fail
    go_ret2
    exact EncP.none 1 rfl (Below.refl _ _)
  · have hq : (((n : Int) / 24) == 0) = false := by rw [beq_eq_false_iff_ne]; omega
    have hm : (((n : Int) % 24) != 0) = true := by rw [bne_iff_ne]; omega
    clear h h0
    go_enter Tryz.func30, Tryz.ntmps30
    go_wp2_with fail
    go_ret2
    exact EncP.none 1 rfl (Below.refl _ _)
set_option maxRecDepth 100000 in
set_option maxHeartbeats 1000000 in
theorem pencode_big (d : List UInt8) (n : Nat) (w : World) (hl : d.length ≤ 9223372036854775807) (hd : d.length = 24 * n) (h : 784 < n) : Calls Tryz.prog 30 #[.string (str d)] w (EncP ([], 7) w) := by
  have hs := str_size d
  rw [hd] at hs hl
  have hq : (((n : Int)) == 0) = false := by rw [beq_eq_false_iff_ne]; omega
  clear hd
  go_enter Tryz.func30, Tryz.ntmps30
  go_wp2_with fail
  go_ret2
  exact EncP.none 7 rfl (Below.refl _ _)
/-- what Encode keeps in memory -/
structure EnW (w0 : World) (N gr gb : Nat) (R : List UInt8) (W : World) : Prop where
  r : Bx W gr 179 (bs R)
  b : Bx W gb 177 [.slice (some ⟨gr, 0, none⟩) N N]
  le : Below w0.heap.size w0 W
  g1 : w0.heap.size ≤ gr
  g2 : gr < gb
theorem EnW.keep {w0 W W' : World} {N gr gb : Nat} {R : List UInt8} (h : EnW w0 N gr gb R W) (hb : Below (gb + 1) W W') : EnW w0 N gr gb R W' :=
  have h1 := h.g1
  have h2 := h.g2
  ⟨h.r.keepB hb (by omega), h.b.keepB hb (by omega), h.le.trans (hb.mono (by omega)), h1, h2⟩
theorem EnW.size {w0 W : World} {N gr gb : Nat} {R : List UInt8} (h : EnW w0 N gr gb R W) : gb + 1 ≤ W.heap.size := h.b.lt
theorem EnW.call {w0 W W' : World} {N gr gb : Nat} {R : List UInt8} (h : EnW w0 N gr gb R W) (hb : Below W.heap.size W W') : EnW w0 N gr gb R W' := h.keep (hb.mono h.size)
theorem EnW.enc {w0 W W' : World} {N gr gb : Nat} {R R' : List UInt8} {e : Ending} (h : EnW w0 N gr gb R W) (hs : EncS gr R' W e W') : EnW w0 N gr gb R' W' := by
  obtain ⟨_, h1, h2, h3⟩ := hs
  have g1 := h.g1
  have g2 := h.g2
  exact ⟨h1, (h3 gb h.b.lt (by omega)).trans h.b, h.le.trans (h2.mono g1), g1, g2⟩
/-- the row 'g' reads as its bytes -/
theorem row_rd {W : World} {N gr g : Nat} {d : List UInt8} {n : Nat} (h : Bx W gr 179 (bs (fl28 N (symX d n 0)))) (hg : g < N) : Rd W (.slice (some ⟨gr, g * 28, none⟩) 28 28) (rowK d n g 28) := by
  have hl := rowK_length d n g 28
  refine ⟨by omega, some ⟨gr, g * 28, none⟩, 28, gr, g * 28, by rw [hl], by omega, fun i hi => ⟨rfl, ?_⟩⟩
  rw [hl] at hi
  have h2 : G.ix (fl28 N (symX d n 0)) (g * 28 + i) = G.ix (rowK d n g 28) i := by
    rw [ix_rowK _ _ _ _ _ hi, ← symX_all]
    have := fl28_get (N := N) (symX d n 0) hg hi
    unfold G.ix
    rw [List.getD_eq_getElem?_getD, this]
    rfl
  rw [← h2]
  exact h.cell (bs_get (by rw [fl28_length]; omega))
set_option maxRecDepth 100000 in
set_option maxHeartbeats 4000000 in
theorem pencode_ok (d : List UInt8) (n : Nat) (w : World) (hd : d.length = 24 * n) (h1 : 1 ≤ n) (h2 : n ≤ 784) : Calls Tryz.prog 30 #[.string (str d)] w (EncP (frms d n (n + 108), 0) w) := by
  have hs := str_size d
  rw [hd] at hs
  have hq : (((n : Int)) == 0) = false := by rw [beq_eq_false_iff_ne]; omega
  have HF := Lib.hid (fun W => (frames_any n W).mono (fun e w' (h : e = _ ∧ W = w') => (by rw [frN_ok h1 (by omega)] at h; exact h : e = .returned (.int .i64 ((n + 108 : Nat) : Int)) ∧ W = w')))
  have HD := Lib.hid hd
  obtain ⟨N, hN⟩ : ∃ N, N = n + 108 := ⟨_, rfl⟩
  rw [← hN] at HF ⊢
  have hN1 : n + 108 ≤ N := by omega
  have hN2 : N ≤ n + 108 := by omega
  have HN := Lib.hid hN
  clear hd hN
  go_enter Tryz.func30, Tryz.ntmps30
  go_wp2_with fail
  refine (HF.out _).mono ?_
  rintro e w' ⟨rfl, rfl⟩
  go_wp2_with (refine wpList_mkRows rfl _ _ rfl Tryz.underlying177 Tryz.infoRow28 N rfl rfl rfl rfl (by omega) ?_; intro w2 hbx2 hb2; have hsz2 := hbx2.lt)
  have hen : EnW w N w.heap.size w2.heap.size (fl28 N (symX d 0 0)) (w2.alloc (.cells #[.slice (some ⟨w.heap.size, 0, none⟩) N N] 177)) := by
    rw [fl28_zero N _ (symX_zero d)]
    exact ⟨hbx2.alloc _, Bx.new _ _ _, hb2.alloc hb2.size _, Nat.le_refl _, hsz2⟩
  obtain ⟨gb, hgb⟩ : ∃ gb, gb = w2.heap.size := ⟨_, rfl⟩
  obtain ⟨gr, hgr⟩ : ∃ gr, gr = w.heap.size := ⟨_, rfl⟩
  generalize hw3 : w2.alloc (.cells #[.slice (some ⟨w.heap.size, 0, none⟩) N N] 177) = w3 at hen ⊢
  simp only [← hgb] at hen ⊢
  simp only [← hgr] at hen ⊢
  have hgb1 : gr < gb := hen.g2
  have hgr1 := hen.g1
  clear hbx2 hb2 hsz2 hgb hgr hw3 hq
  go_loopw [32] (fun vf wr => ∃ f : Nat, f ≤ n ∧ vf = .int .i64 f ∧ EnW w N gr gb (fl28 N (symX d f 0)) wr) (fun vf _ => n - (intOf vf).toNat)
  case atStart => exact ⟨0, by omega, rfl, hen⟩
  case round =>
    clear hen
    obtain ⟨f, hf, rfl, hen⟩ := hrel
    obtain ⟨wo, rfl⟩ : ∃ wo : World, wo = wr := ⟨_, rfl⟩
    by_cases hlt : f < n
    · have hlt' : (f : Int) < (n : Int) := by omega
      have hcut := fun W => run_cut9 (P := Tryz.prog) Tryz.underlying9 d (24 * f) (24 * (f + 1)) (by omega) (by rw [HD.out]; omega) (24 * (f : Int)) (24 * ((f : Int) + 1)) (by omega) (by omega) W
      have hdl := dat_length HD.out hlt
      have e24 : 24 * (f + 1) - 24 * f = 24 := by omega
      rw [e24] at hcut
      simp only [show (d.drop (24 * f)).take 24 = dat d f from rfl] at hcut
      have HE := Lib.hid (fun W => encode_ok (dat d f) 4 W (by intro e; rw [e] at hdl; simp at hdl) (by omega) (by omega) (by omega))
      have HNX := Lib.hid (symX_next d N f)
      have hsz := hen.size
      have HEN := Lib.hid hen
      clear hdl e24 hen
      go_wp2_with fail
      refine (HE.out _).mono ?_
      rintro e w4 ⟨rfl, hb4⟩
      have hen4 := HEN.out.call hb4
      have hen5 := hen4.call ((Below.refl w4.heap.size w4).alloc (Nat.le_refl _) (.cells #[.string (str (wrd d f))] 9))
      have hwb := Bx.new w4 9 [.string (str (wrd d f))]
      have hs4 := hen4.size
      have HCO := Lib.hid (collect_enc d f n N w4.heap.size gb gr (w4.alloc (.cells #[.string (str (wrd d f))] 9)) HD.out hlt h2 HN.out (by omega) (by omega) (hwb.cell (i := 0) rfl) (hen5.b.cell (i := 0) rfl) hen5.r)
      have HEN5 := Lib.hid hen5
      clear hcut HE hb4 hen4 hen5 hwb
      go_wp2_with fail
      refine HCO.out.mono ?_
      intro e w6 hco
      have hen6 := HEN5.out.enc hco
      obtain ⟨rfl, _⟩ := hco
      rw [HNX.out] at hen6
      go_wp2_with fail
      go_roundw
      case rel => exact ⟨f + 1, by omega, by go_num, hen6⟩
      case measure => simp [intOf]; omega
    · obtain rfl : f = n := by omega
      have hcb := hen.b.cell (i := 0) rfl
      go_wp2_with fail
      go_loopw [9, 52] (fun vo vg wr => ∃ g : Nat, g ≤ N ∧ vg = .int .i64 g ∧ wr.ownsRow (gb + 1) 9 1 vo (frms d f g).length (flD ssD (frms d f g)) ∧ EnW w N gr gb (fl28 N (symX d f 0)) wr) (fun _ vg _ => N - (intOf vg).toNat)
      case atStart => exact ⟨0, by omega, rfl, ⟨rfl, .inl ⟨rfl, rfl⟩⟩, hen⟩
      case round =>
        clear hen hcb
        obtain ⟨g, hg, rfl, ho, hen⟩ := hrel
        obtain ⟨wq, rfl⟩ : ∃ wq : World, wq = wr := ⟨_, rfl⟩
        have hsz := hen.size
        by_cases hgt : g < N
        · have hgt' : (g : Int) < (N : Int) := by omega
          have HL := Lib.hid (frms_succ d f g)
          have hll := frms_length d f g
          obtain ⟨L, hL⟩ : ∃ L, L = frms d f g := ⟨_, rfl⟩
          rw [← hL] at HL ho hll
          clear hL
          have hcb := hen.b.cell (i := 0) rfl
          have hix := fun w' => run_idxS Tryz.underlying177 Tryz.sizeRow28 (a := some ⟨gr, 0, none⟩) (cap := N) rfl hgt (g : Int) rfl w'
          simp only [Nat.zero_add] at hix
          have hrd := row_rd hen.r hgt
          have hconv := run_str (P := Tryz.prog) Tryz.underlying123 Tryz.underlying5 Tryz.underlying9 hrd
          have HE := Lib.hid (fun W => encode_ok (rowK d f g 28) 4 W (by intro e; have := rowK_length d f g 28; rw [e] at this; simp at this) (by omega) (by omega) (by have := rowK_length d f g 28; omega))
          have HEN := Lib.hid hen
          have HO := Lib.hid ho
          clear hen ho hrd
          go_wp2_with fail
          refine (HE.out _).mono ?_
          rintro e w7 ⟨rfl, hb7⟩
          change Hid (frms d f (g + 1) = L ++ [G.enc (rowK d f g 28) 4]) at HL
          generalize G.enc (rowK d f g 28) 4 = x at HL ⊢
          have hA := hb7.alloc hb7.size (.cells #[.string (str x)] 9)
          have hoa := ownD_keep HO.out hA
          have hbas := hA.size
          have HA := Lib.hid hA
          clear hconv hix hb7 hA hcb
          go_wp2_with (at_builtin; refine wpList_ap1 rfl _ _ rfl Tryz.underlying47 Tryz.infoStr9 rfl hoa rfl (g := w7.heap.size) (y := .string (str x)) rfl (by simp) rfl (by unfold maxLen; omega) (by omega) (by omega) ?_; intro v8 w8 hown8 hgr8 hno8)
          have hb8 := (Below.refl (gb + 1) (w7.alloc (.cells #[.string (str x)] 9))).grown hgr8 (by omega) (fun q hq => by have := ownD_block hoa q hq; omega)
          have hen8 := (HEN.out.call HA.out).keep hb8
          clear hoa hgr8 hno8 hb8
          go_roundw
          case rel => exact ⟨g + 1, by omega, by go_num, by rw [HL.out, ss_append, List.length_append]; exact hown8, hen8⟩
          case measure => simp [intOf]; omega
        · obtain rfl : g = N := by omega
          have HLE := Lib.hid hen.le
          have HO := Lib.hid ho
          obtain ⟨ao, co, rfl⟩ := ownD_form ho
          clear ho hen
          go_wp2_with fail
          go_ret2
          exact ⟨_, rfl, own_mono HO.out (by omega), HLE.out⟩
end Go.Proofs.YtflmjdjkfognjaaGreat.C9
namespace Go.Proofs.YtflmjdjkfognjaaGreat.C9
open Go.RowKit W8
set_option linter.unusedVariables false
/-- the example -/
def d1 : List UInt8 := 1 :: List.replicate 23 0
end Go.Proofs.YtflmjdjkfognjaaGreat.C9
namespace Go.Proofs.YtflmjdjkfognjaaGreat.C9
open Go.ChangeShapes Go.WideShapes Go.RowKit Go.Deep W8
set_option linter.unusedVariables false
section
variable {H : Type} {enc : TypeId × Value → H} {w : World} {base b0 : Nat} {sp : Nat → Bool} {held : Bool}
/-- a slice of scratches that came in -/
def CameSc (w : World) (v : Value) (l : List Sc) : Prop := RdSc w v l ∧ (∀ i, i < l.length → Wf (scA l i)) ∧ l.length ≤ 9223372036854775807
end
theorem CameSc.keep {w w' : World} {v : Value} {l : List Sc} (h : CameSc w v l) (hb : Below w.heap.size w w') : CameSc w' v l := ⟨RdD.keep h.1 hb, h.2⟩
theorem lostR_bd (d : Int) (l : List Sc) : (lostR d l).1.length ≤ 11300000 ∧ ∀ x ∈ (lostR d l).1, -9223372036854775808 ≤ x ∧ x ≤ 9223372036854775807 := by
  unfold lostR
  split
  · simp
  · split
    · simp
    · have h1 := lostN_length l d.toNat
      refine ⟨by simp only; omega, fun x hx => ?_⟩
      have := lostN_bd l d.toNat x hx
      omega
/-- what is lost, as a slice that can be read -/
theorem LostP.rd {d : Int} {l : List Sc} {w w' : World} {e : Ending} (h : LostP (lostR d l) w e w') : ∃ v, e = .returned (.tuple #[v, .int .i64 (lostR d l).2]) ∧ RdI w' v (lostR d l).1 ∧ Below w.heap.size w w' := by
  obtain ⟨v, he, ho, hb⟩ := h
  obtain ⟨h1, h2⟩ := lostR_bd d l
  exact ⟨v, he, rdI_own ho rfl (by omega) h2, hb⟩
end Go.Proofs.YtflmjdjkfognjaaGreat.C9
namespace Go.Proofs.YtflmjdjkfognjaaGreat.C9
open Go.RowKit W8
set_option linter.unusedVariables false
/-- frames of which the marked ones are empty -/
def scP (F : List (List UInt8)) (m : Nat → Bool) : List (List UInt8) := (List.range F.length).map fun g => if m g = true then [] else frA F g
theorem scP_length (F : List (List UInt8)) (m : Nat → Bool) : (scP F m).length = F.length := by simp [scP]
theorem scP_congr {F : List (List UInt8)} {m m' : Nat → Bool} (h : ∀ g, g < F.length → m g = m' g) : scP F m = scP F m' := List.map_congr_left fun g hg => by rw [h g (List.mem_range.1 hg)]
theorem scP_set (F : List (List UInt8)) (m : Nat → Bool) (k : Nat) : (scP F m).set k [] = scP F (fun g => m g || g == k) := by
  apply List.ext_getElem?
  intro g
  rw [List.getElem?_set, scP_length]
  by_cases hg : g < F.length
  · by_cases hk : k = g
    · subst hk
      rw [if_pos rfl, if_pos hg]
      simp [scP, hg]
    · rw [if_neg hk]
      have hk' : ¬ g = k := fun h => hk h.symm
      simp [scP, hg, hk']
  · rw [List.getElem?_eq_none (l := scP F _) (by rw [scP_length]; omega), List.getElem?_eq_none (l := scP F _) (by rw [scP_length]; omega)]
    split
    · rw [if_neg (by omega)]
    · rfl
theorem scP_none (F : List (List UInt8)) : scP F (gon []) = F := by
  apply List.ext_getElem
  · rw [scP_length]
  · intro i h1 h2
    simp [scP, gon, frA, h2]
/-- the marks while a scratch is worked off -/
def cvX (l : List Sc) (s : Sc) (i : Nat) (g : Nat) : Bool := gon l g || covX s i g
theorem scP_zero (F : List (List UInt8)) (l : List Sc) (s : Sc) : scP F (cvX l s 0) = scP F (gon l) := scP_congr fun g _ => by
  have : covX s ((0 : Nat) : Int) g = false := by
    unfold covX
    rw [Bool.and_eq_false_iff]
    by_cases h : s.f ≤ (g : Int)
    · right; rw [decide_eq_false_iff_not]; omega
    · left; rw [decide_eq_false_iff_not]; exact h
  show (gon l g || covX s ((0 : Nat) : Int) g) = gon l g
  rw [this, Bool.or_false]
theorem scP_step (F : List (List UInt8)) (l : List Sc) (s : Sc) (i k : Nat) (hk : (k : Int) = s.f + i) : (scP F (cvX l s i)).set k [] = scP F (cvX l s (i + 1)) := by
  rw [scP_set]
  refine scP_congr fun g _ => ?_
  unfold cvX
  rw [Bool.or_assoc]
  congr 1
  rw [Bool.eq_iff_iff]
  simp only [covX, Bool.or_eq_true, Bool.and_eq_true, decide_eq_true_eq, beq_iff_eq]
  omega
theorem scP_all (F : List (List UInt8)) (l : List Sc) (s : Sc) (i : Nat) (hi : (i : Int) = s.c) : scP F (cvX l s i) = scP F (gon (l ++ [s])) := scP_congr fun g _ => by
  rw [gon_snoc, ← hi]
  rfl
def scrR (F : List (List UInt8)) (l : List Sc) : List (List UInt8) × Int := if fitA F.length l = false then ([], 1) else (scrF F l, 0)
set_option maxRecDepth 100000 in
set_option maxHeartbeats 4000000 in
theorem pscratch_any (va : Value) (F : List (List UInt8)) (v : Value) (l : List Sc) (w : World) (hF : RdStr w va F) (hn : F.length ≤ 1000000) (h : CameSc w v l) :
    Calls Tryz.prog 31 #[va, v] w (EncP (scrR F l) w) := by
  obtain ⟨hr, hwf, hl⟩ := h
  obtain ⟨aF, cF, rfl, _⟩ := RdD.form hF
  obtain ⟨a, c, rfl, hac⟩ := RdD.form hr
  obtain ⟨b0, off, hcell⟩ := RdD.at hr
  have HC := Lib.hid hcell; clear hcell
  have HW := Lib.hid hwf; clear hwf
  have HNO : Hid (∀ k, k < l.length → fitB F.length (scA l k) = false → scrR F l = ([], 1)) := Lib.hid fun k hk h => by unfold scrR; rw [fitA_false hk h, if_pos rfl]
  have HYES : Hid (fitK F.length l l.length → scrR F l = (scP F (gon l), 0)) := Lib.hid fun h => by unfold scrR; rw [fitA_true h, if_neg (by decide)]; rfl
  generalize scrR F l = RES at *
  obtain ⟨N, hN⟩ : ∃ N, N = F.length := ⟨_, rfl⟩
  have HN := Lib.hid hN
  have hoF : (w.alloc (.cells #[] 9)).ownsRow w.heap.size 9 1 (.slice (some ⟨w.heap.size, 0, none⟩) 0 0) 0 (flD ssD []) := World.ownsRow_lit w #[] 0 (Nat.le_refl _) (by simp) (by simp)
  have hb0 : Below w.heap.size w (w.alloc (.cells #[] 9)) := (Below.refl _ _).alloc (Nat.le_refl _) _
  have hrF := RdD.keep hF hb0
  have hbs0 := hb0.size
  rw [← hN] at hn HNO HYES ⊢
  rw [← hN] at hrF
  clear hr hF hN
  go_enter Tryz.func31, Tryz.ntmps31
  go_wp2_with (at_builtin; refine wpList_appD rfl _ _ rfl Tryz.underlying47 Tryz.infoStr9 rfl (by omega) ssD_len ssD_one hoF rfl hrF rfl (by rw [← HN.out]; unfold maxLen; omega) (by rw [← HN.out]; omega) hbs0 ?_; intro v1 w1 ho1 hg1)
  have hb1 := hb0.grown hg1 hbs0 (ownD_block hoF)
  rw [Nat.zero_add, List.nil_append] at ho1
  rw [← scP_none F] at ho1
  clear hoF hb0 hrF hbs0 hg1
  obtain ⟨ao, co, rfl⟩ := ownD_form ho1
  rw [scP_length, ← HN.out] at ho1 ⊢
  go_loopw [15] (fun vk wr => ∃ k : Nat, k ≤ l.length ∧ vk = .int .i64 k ∧ Hid (fitK N l k) ∧ wr.ownsRow w.heap.size 9 1 (.slice ao N co) N (flD ssD (scP F (gon (l.take k)))) ∧ Below w.heap.size w wr) (fun vk _ => l.length - (intOf vk).toNat)
  case atStart => exact ⟨0, by omega, rfl, Lib.hid fun m hm => by omega, ho1, hb1⟩
  case round =>
    clear ho1 hb1
    obtain ⟨k, hk, rfl, HO, ho, hb⟩ := hrel
    obtain ⟨wo, rfl⟩ : ∃ wo : World, wo = wr := ⟨_, rfl⟩
    have hbs := hb.size
    by_cases hlt : k < l.length
    · obtain ⟨ha, hrange⟩ := HC.out k hlt
      have HT := Lib.hid (take_snocS hlt)
      have HNOk := Lib.hid (HNO.out k hlt)
      have hw9 := HW.out k hlt
      have HS : Hid (fitB N (scA l k) = true → fitK N l (k + 1)) := Lib.hid fun h m hm => by
        by_cases e : m < k
        · exact HO.out m e
        · have : m = k := by omega
          rw [this]; exact h
      change w.rangeAt b0 (off + k * 2) (scc (scA l k)) at hrange
      generalize scA l k = x at *
      obtain ⟨xf, xc⟩ := x
      have hrg : wo.rangeAt b0 (off + k * 2) (scc ⟨xf, xc⟩) := fun j u hu => (hb.cell (p := ⟨b0, off + k * 2 + j, none⟩) (World.block_lt_of_cell? w _ (hrange j u hu))).trans (hrange j u hu)
      clear hrange
      obtain ⟨hc0, hc1⟩ := rd2 hrg
      clear hrg
      simp only at hc0 hc1
      have hix := fun w' => run_idxS Tryz.underlying76 Tryz.sizeSc (cap := c) ha hlt _ rfl w'
      have Ha := Lib.hid ha; clear ha
      have hA := (Below.refl wo.heap.size wo).alloc (Nat.le_refl _) (.cells #[.int .i64 xf, .int .i64 xc] 96)
      have HA := Lib.hid hA
      have HSB := Lib.hid (Bx.new wo 96 [.int .i64 xf, .int .i64 xc])
      have HOO := Lib.hid ho
      have HLT := Lib.hid ho
      clear hA ho
      go_wp2_with fail
      refine (fits_any xf xc N _ hw9 (by omega)).mono ?_
      rintro e w1 ⟨rfl, hb1⟩
      have hbA := HA.out.trans (hb1.mono HA.out.size)
      have ho1 := ownD_keep HOO.out hbA
      have hsb1 := HSB.out.call hb1
      have hbw1 := hb.trans (hbA.mono hbs)
      obtain ⟨q, hq⟩ : ∃ q, q = fitB N ⟨xf, xc⟩ := ⟨_, rfl⟩
      rw [← hq] at HS HNOk ⊢
      obtain ⟨⟨f1, f2⟩, c1, c2⟩ := hw9
      simp only at f1 f2 c1 c2
      clear hc0 hc1 hb1 HA HSB hbA HOO
      cases q with
      | false =>
        have hR := HNOk.out rfl
        subst hR
        clear ho1 hsb1 hq
        go_wp2_with fail
        go_ret2
        exact EncP.none 1 rfl hbw1
      | true =>
        obtain ⟨x1, x2, x3, x4⟩ := (fitB_iff _ _).1 hq.symm
        simp only at x1 x2 x3 x4
        have HS2 := Lib.hid (HS.out rfl)
        clear hq HS HNOk
        obtain ⟨fn, rfl⟩ : ∃ fn : Nat, xf = (fn : Int) := ⟨xf.toNat, by omega⟩
        obtain ⟨cn, rfl⟩ : ∃ cn : Nat, xc = (cn : Int) := ⟨xc.toNat, by omega⟩
        obtain ⟨sb, hsb⟩ : ∃ sb, sb = wo.heap.size := ⟨_, rfl⟩
        have hof : Off (.slice ao N co) (fun q => q = sb) := Off.own HLT.out fun q _ hq h => by omega
        rw [← hsb] at hsb1
        simp only [← hsb]
        clear hsb
        have hd1 := hsb1.cell (i := 1) rfl
        obtain ⟨ga, hga⟩ : ∃ ga, ao = some ⟨ga, 0, none⟩ := by
          obtain ⟨g, c', e, _, _⟩ := ownD_addr ho1 (by omega)
          simp only [Value.slice.injEq] at e
          exact ⟨g, e.1⟩
        have hgs : ga ≠ sb := fun h => hof ga (by rw [hga]; rfl) h
        have hwg : w.heap.size ≤ ga := (ho1.lt ga (by rw [hga]; rfl)).1
        have HGA := Lib.hid hga
        clear hof hga HLT
        go_wp2_with fail
        go_loopw [26] (fun vi wr => ∃ j : Nat, j ≤ cn ∧ vi = .int .i64 j ∧ wr.ownsRow w.heap.size 9 1 (.slice ao N co) N (flD ssD (scP F (cvX (l.take k) ⟨fn, cn⟩ j))) ∧ Bx wr sb 96 [.int .i64 fn, .int .i64 cn] ∧ Below w.heap.size w wr) (fun vi _ => cn - (intOf vi).toNat)
        case atStart => exact ⟨0, by omega, rfl, by rw [scP_zero]; exact ho1, hsb1, hbw1⟩
        case round =>
          clear ho1 hsb1 hbw1 hd1
          obtain ⟨j, hj, rfl, ho1, hsb1, hbw1⟩ := hrel
          have hd0 := hsb1.cell (i := 0) rfl
          have hd1 := hsb1.cell (i := 1) rfl
          by_cases hjt : j < cn
          · have hjt' : (j : Int) < (cn : Int) := by omega
            have hkn : fn + j < N := by omega
            have hlen : fn + j < (scP F (cvX (l.take k) ⟨fn, cn⟩ j)).length := by rw [scP_length, ← HN.out]; exact hkn
            have ho2 := ho1
            rw [HGA.out] at ho2
            have hset := ownD_fld (d := []) ssD_len ho2 (fn + j) 0 hlen (by omega) (.string ⟨#[]⟩) [] rfl
            rw [scP_step F _ _ j (fn + j) (by simp only; omega)] at hset
            have hcl : wr.cell? ⟨ga, fn + j, none⟩ = some (.string (str (atD [] (scP F (cvX (l.take k) ⟨fn, cn⟩ j)) (fn + j)))) := by
              have := (ownD_cells (d := []) ssD_len ho2 (fn + j) hlen) 0 _ rfl
              simpa using this
            have hfr : wr.frozen? ⟨ga, fn + j, none⟩ = false := ho2.frozenAt _
            have hix2 := fun w' => run_idxS Tryz.underlying47 (by kernel_rfl : (Tryz.prog.info? 9).map (·.size) = some 1) (cap := co) HGA.out hkn ((fn : Int) + (j : Int)) (by omega) w'
            simp only [Nat.mul_one, Nat.zero_add, Nat.add_zero] at hix2 hset
            generalize str (atD [] (scP F (cvX (l.take k) ⟨fn, cn⟩ j)) (fn + j)) = old at hcl
            rw [← HGA.out] at hset
            have HSET := Lib.hid hset
            have HSB2 := Lib.hid (hsb1.far (p := ⟨ga, fn + j, none⟩) hgs (.string ⟨#[]⟩))
            have HBW := Lib.hid hbw1
            clear hset hsb1 ho1 ho2 hbw1 hlen
            go_wp2_with fail
            go_roundw
            case rel => exact ⟨j + 1, by omega, by go_num, HSET.out, HSB2.out, HBW.out.setCell hwg _⟩
            case measure => simp [intOf]; omega
          · obtain rfl : j = cn := by omega
            rw [scP_all F (l.take k) ⟨fn, j⟩ j rfl, ← HT.out] at ho1
            have HO1 := Lib.hid ho1
            clear ho1 hsb1
            go_wp2_with fail
            go_roundw
            case rel => exact ⟨k + 1, by omega, by go_num, HS2, HO1.out, hbw1⟩
            case measure => simp [intOf]; omega
    · obtain rfl : k = l.length := by omega
      rw [List.take_length] at ho
      have hR := HYES.out HO.out
      subst hR
      have HOO := Lib.hid ho
      clear ho
      go_wp2_with fail
      go_ret2
      exact ⟨_, rfl, by simp only [scP_length, ← HN.out]; exact HOO.out, hb⟩
end Go.Proofs.YtflmjdjkfognjaaGreat.C9
namespace Go.Proofs.YtflmjdjkfognjaaGreat.C9
open Go.RowKit W8
set_option linter.unusedVariables false
theorem bytes_beq (s : ByteArray) : (s.toList == s.toList) = true := by simp
end Go.Proofs.YtflmjdjkfognjaaGreat.C9
namespace Go.Proofs.YtflmjdjkfognjaaGreat.C9
open Go.RowKit W8
set_option linter.unusedVariables false
theorem Tryz.infoU9 : (Tryz.prog.info? 5).map (fun i => (i.zero, i.size, i.bytes)) = some (some (.int .u8 0), 1, 1) := by kernel_rfl
end Go.Proofs.YtflmjdjkfognjaaGreat.C9
namespace Go.Proofs.YtflmjdjkfognjaaGreat.C9
open Go.ChangeShapes Go.WideShapes Go.RowKit Go.Deep W8
set_option linter.unusedVariables false
theorem pencC_any (d : List UInt8) (w : World) (hl : d.length ≤ 9223372036854775807) : Calls Tryz.prog 30 #[.string (str d)] w (EncP (encR d) w) := by
  unfold encR
  by_cases h : d.length = 0 ∨ d.length % 24 ≠ 0
  · rw [if_pos h]
    exact pencode_arg d w hl h
  · rw [if_neg h]
    by_cases h2 : 784 < d.length / 24
    · rw [if_pos h2]
      exact pencode_big d (d.length / 24) w hl (by omega) h2
    · rw [if_neg h2]
      exact pencode_ok d (d.length / 24) w (by omega) (by omega) (by omega)
/-- strings that a call made, as a slice that can be read -/
theorem EncP.rd {R : List (List UInt8) × Int} {w w' : World} {e : Ending} (h : EncP R w e w') : ∃ v, e = .returned (.tuple #[v, .int .i64 R.2]) ∧ RdStr w' v R.1 ∧ Below w.heap.size w w' := by
  obtain ⟨v, he, ho, hb⟩ := h
  exact ⟨v, he, RdD.ofOwn ssD_len ho, hb⟩
end Go.Proofs.YtflmjdjkfognjaaGreat.C9
