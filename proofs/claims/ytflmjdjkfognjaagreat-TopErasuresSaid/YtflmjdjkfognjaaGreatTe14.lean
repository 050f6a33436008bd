/- Parts: XDecW XAw4 XRef4 XRef4b XOpen XCodes XMap -/
import Derived.Test.YtflmjdjkfognjaaGreatTe13
import Derived.Deep.LoopGhost
import Derived.Deep.RegionHeld3
import Derived.Test.YtflmjdjkfognjaaGreatTe05
import Derived.WalkKit
import Derived.ProofKit
import Derived.OpenShut
import Derived.ShutString
import Derived.ChangeOld
import Derived.Below
import Derived.Maps.OwnOps
import Derived.Maps.OwnSet
import Derived.Maps.Views
namespace Go.Proofs.YtflmjdjkfognjaaGreat
open Go.RowKit
set_option linter.unusedVariables false
theorem decode_bad (p : List UInt8) (n : Int) (ve : Value) (l : List Int) (w : World) (hp : p.length ≤ 9223372036854775807) (hv : ∃ a l c, ve = .slice a l c) (h : G.shapedB p n = false) :
    Calls Tryz.prog 89 #[.string (str p), .int .i64 n, ve] w fun e w' => e = .returned (.tuple #[.string (str []), .int .i64 0, .int .i64 1]) ∧ Below w.heap.size w w' := by
  have H := Lib.hid h; clear h
  have hv0 := hv
  obtain ⟨a, m, c, rfl⟩ := hv
  go_enter Tryz.func89, Tryz.ntmps89
  go_wp2_with fail
  refine (start_bad p n _ _ hp H.out hv0).mono ?_
  rintro e w' ⟨rfl, rfl⟩
  go_wp2_with fail
  go_ret3
  exact ⟨rfl, Below.refl _ _⟩
theorem decode_pos (p : List UInt8) (n : Nat) (ve : Value) (l : List Int) (w : World) (h : G.shapedB p n = true) (hv : RdI w ve l) (hl : l.length ≤ 1073741824) (hp : G.posB p.length l = false) :
    Calls Tryz.prog 89 #[.string (str p), .int .i64 n, ve] w fun e w' => e = .returned (.tuple #[.string (str []), .int .i64 0, .int .i64 1]) ∧ Below w.heap.size w w' := by
  have H := Lib.hid h; clear h
  have HP := Lib.hid hp; clear hp
  have hv0 := hv
  obtain ⟨_, ⟨a, c, _, _, rfl, _, _⟩, _⟩ := hv
  go_enter Tryz.func89, Tryz.ntmps89
  go_wp2_with fail
  refine (start_pos p n _ l _ H.out hv0 hl HP.out).mono ?_
  rintro e w' ⟨rfl, hb⟩
  go_wp2_with fail
  go_ret3
  exact ⟨rfl, hb⟩
theorem decode_many (p : List UInt8) (n : Nat) (ve : Value) (l : List Int) (w : World) (h : G.shapedB p n = true) (hv : RdI w ve l) (hl : n < l.length) (hl2 : l.length ≤ 1073741824) (hp : G.posB p.length l = true) :
    Calls Tryz.prog 89 #[.string (str p), .int .i64 n, ve] w fun e w' => e = .returned (.tuple #[.string (str []), .int .i64 0, .int .i64 11]) ∧ Below w.heap.size w w' := by
  have H := Lib.hid h; clear h
  have HP := Lib.hid hp; clear hp
  have hv0 := hv
  obtain ⟨_, ⟨a, c, _, _, rfl, _, _⟩, _⟩ := hv
  go_enter Tryz.func89, Tryz.ntmps89
  go_wp2_with fail
  refine (start_many p n _ l _ H.out hv0 hl hl2 HP.out).mono ?_
  rintro e w' ⟨rfl, hb⟩
  go_wp2_with fail
  go_ret3
  exact ⟨rfl, hb⟩
theorem decode_same (p : List UInt8) (n : Nat) (ve : Value) (w : World) (h : G.shapedB p n = true) (hv : RdI w ve []) (hz : G.zeroB (G.xi p n []) = true) :
    Calls Tryz.prog 89 #[.string (str p), .int .i64 n, ve] w fun e w' => e = .returned (.tuple #[.string (str p), .int .i64 0, .int .i64 0]) ∧ Below w.heap.size w w' := by
  have H := Lib.hid h; clear h
  have HZ := Lib.hid hz; clear hz
  have hv0 := hv
  obtain ⟨_, ⟨a, c, _, _, rfl, _, _⟩, _⟩ := hv
  go_enter Tryz.func89, Tryz.ntmps89
  go_wp2_with fail
  refine (start_ok p n _ [] _ H.out hv0 (by simp) rfl).mono ?_
  rintro e w1 ⟨vg, ad, cap, rfl, hrg, hrx, hb1⟩
  clear hrg
  go_wp2_with fail
  refine (zero_any _ _ _ hrx).mono ?_
  rintro e w' ⟨rfl, rfl⟩
  rw [HZ.out]
  go_wp2_with fail
  go_ret3
  exact ⟨rfl, hb1⟩
theorem rep_set (n : Nat) : (List.replicate (n + 1) (0 : UInt8)).set n 1 = List.replicate n 0 ++ [1] := by
  rw [List.replicate_succ', List.set_append_right _ _ (by simp)]
  simp
theorem deg_one (n : Nat) : G.deg (List.replicate n 0 ++ [1]) = n := by
  have e : (List.replicate n (0 : UInt8) ++ [1]).length = n + 1 := by simp
  unfold G.deg
  rw [e, G.degN, if_neg]
  rw [G.ix_append_right (by simp)]
  simp [G.ix]
def DecOut (p o : List UInt8) (l : List Int) (n : Nat) (w : World) (e : Ending) (w' : World) : Prop :=
  e = .returned (.tuple (if G.validB o n = true ∧ 2 * G.othN p o l p.length + l.length ≤ n then #[.string (str o), .int .i64 (G.allN p o p.length : Int), .int .i64 0] else #[.string (str []), .int .i64 0, .int .i64 11])) ∧ Below w.heap.size w w'
theorem DecOut.yes {p o : List UInt8} {l : List Int} {n : Nat} {w w' : World} (h1 : G.validB o n = true) (h2 : 2 * G.othN p o l p.length + l.length ≤ n) (hb : Below w.heap.size w w') :
    DecOut p o l n w (.returned (.tuple #[.string (str o), .int .i64 (G.allN p o p.length : Int), .int .i64 0])) w' := ⟨by rw [if_pos ⟨h1, h2⟩], hb⟩
theorem DecOut.no {p o : List UInt8} {l : List Int} {n : Nat} {w w' : World} (h : ¬ (G.validB o n = true ∧ 2 * G.othN p o l p.length + l.length ≤ n)) (hb : Below w.heap.size w w') :
    DecOut p o l n w (.returned (.tuple #[.string (str []), .int .i64 0, .int .i64 11])) w' := ⟨by rw [if_neg h], hb⟩
theorem prod_len_le (p q : List UInt8) : (G.prod p q).length ≤ p.length + q.length := by
  unfold G.prod
  split
  · simp
  · rw [G.addRows_length]; omega
set_option maxRecDepth 100000 in
set_option maxHeartbeats 4000000 in
theorem decode_ok (p : List UInt8) (n : Nat) (ve : Value) (l : List Int) (w : World) (h : G.shapedB p n = true) (hv : RdI w ve l) (hl : l.length ≤ n) (hp : G.posB p.length l = true) (hno : l.length = 0 → G.zeroB (G.xi p n l) = false) :
    Calls Tryz.prog 89 #[.string (str p), .int .i64 n, ve] w (DecOut p (G.decOut p n l) l n w) := by
  obtain ⟨h1, h2, h3, h4, h5⟩ := (G.shapedB_iff p n).1 h
  have H := Lib.hid h; clear h
  have HP := Lib.hid hp; clear hp
  have hv0 := hv
  obtain ⟨va, vc, rfl⟩ : ∃ a c, ve = .slice a l.length c := by
    obtain ⟨_, ⟨a, c, _, _, rfl, _, _⟩, _⟩ := hv
    exact ⟨_, _, rfl⟩
  have hel := G.erasI_length p.length l l.length
  have hxl := G.xi_length p n l (by omega)
  have hout : G.decOut p n l = G.repair p (G.prod (G.euc ((n : Int) + l.length) n (List.replicate n 0 ++ [1]) (G.xi p n l) [0] [1]).2 (G.erasI p.length l l.length)) (G.euc ((n : Int) + l.length) n (List.replicate n 0 ++ [1]) (G.xi p n l) [0] [1]).1 := rfl
  obtain ⟨o, ho⟩ : ∃ o, o = G.decOut p n l := ⟨_, rfl⟩
  rw [← ho] at hout ⊢
  clear ho
  obtain ⟨gm, hgm⟩ : ∃ gm, gm = G.erasI p.length l l.length := ⟨_, rfl⟩
  rw [← hgm] at hel hout
  obtain ⟨xi, hxi⟩ : ∃ xi, xi = G.xi p n l := ⟨_, rfl⟩
  rw [← hxi] at hxl hno hout
  obtain ⟨FB, hFB⟩ : ∃ FB, FB = G.euc ((n : Int) + l.length) n (List.replicate n 0 ++ [1]) xi [0] [1] := ⟨_, rfl⟩
  rw [← hFB] at hout
  have HF := Lib.hid hFB; clear hFB
  have HG := Lib.hid hgm; clear hgm
  have HX := Lib.hid hxi; clear hxi
  have HO := Lib.hid hout; clear hout
  have hgl : 1 ≤ gm.length := by omega
  have hgl2 : gm.length ≤ 17 := by omega
  have HXL := Lib.hid hxl; clear hxl
  clear hel
  have hcase : (((l.length : Int) == 0) = true ∧ Hid (G.zeroB xi = false)) ∨ (((l.length : Int) == 0) = false ∧ Hid True) := by
    by_cases hl0 : l.length = 0
    · exact .inl ⟨by rw [hl0]; rfl, Lib.hid (hno hl0)⟩
    · exact .inr ⟨by rw [beq_eq_false_iff_ne]; omega, Lib.hid trivial⟩
  clear hno
  rcases hcase with ⟨hd0, HZ⟩ | ⟨hd0, HZ⟩
  all_goals
    go_enter Tryz.func89, Tryz.ntmps89
    go_wp2_with fail
    refine (start_ok p n _ l _ H.out hv0 hl HP.out).mono ?_
    rintro e w1 ⟨vg, ad, cap, rfl, hrg, hrx, hb1⟩
    rw [← HG.out] at hrg
    rw [← HX.out] at hrx
    have hb1s := hb1.size
    go_wp2_with (first | (refine (zero_any _ _ _ hrx).mono ?_; rintro e w' ⟨rfl, rfl⟩; rw [HZ.out]) | (refine wpList_mkB (base := w.heap.size) rfl _ _ rfl Tryz.underlying245 Tryz.infoU8 (n + 1) rfl rfl (by omega) (by omega) (by omega) hb1s ?_; intro w3 hown3 hgr3; have hb3 : Below w.heap.size w w3 := hb1.grown hgr3 hb1s (by simp); have hr3 := Row.cells hown3; have hcs3 := hr3.cell n (by simp); have hfs3 := hr3.frozen n (by omega); have hrg3 := (hrg.x (Nat.le_refl _)).keepW (fun k hk _ => hgr3.block k hk (by simp)); have hrx3 := (hrx.x (Nat.le_refl _)).keepW (fun k hk _ => hgr3.block k hk (by simp))))
    have hr4 : Row (w3.setCell ⟨w1.heap.size, n, none⟩ (.int .u8 1)) 5 w1.heap.size (n + 1) (List.replicate n 0 ++ [1]) := by
      have := hr3.store n 1 (by simp)
      rw [rep_set] at this
      exact this
    have hz4 : (w3.setCell ⟨w1.heap.size, n, none⟩ (.int .u8 1)).heap.size = w3.heap.size := by simp
    have hg4 := hrg3.set (o := n) (u := .int .u8 1)
    have hx4 := hrx3.set (o := n) (u := .int .u8 1)
    have hb4 := hb3.setCell (p := ⟨w1.heap.size, n, none⟩) hb1s (.int .u8 1)
    clear hr3 hcs3 hfs3 hrg3 hrx3 hb3 hown3 hgr3 hrg hrx
    generalize w3.setCell ⟨w1.heap.size, n, none⟩ (.int .u8 1) = w4 at hr4 hz4 hg4 hx4 hb4 ⊢
    rw [← hz4]
    clear hz4
    have ha5 := (hr4.rd (by simp; omega)).keep (((Below.refl w4.heap.size w4).alloc (Nat.le_refl _) (.cells #[.int .u8 0] 5)).alloc (by simp) (.cells #[.int .u8 1] 5))
    have hg5 := hg4.rd.keep (((Below.refl w4.heap.size w4).alloc (Nat.le_refl _) (.cells #[.int .u8 0] 5)).alloc (by simp) (.cells #[.int .u8 1] 5))
    have hx5 := hx4.rd.keep (((Below.refl w4.heap.size w4).alloc (Nat.le_refl _) (.cells #[.int .u8 0] 5)).alloc (by simp) (.cells #[.int .u8 1] 5))
    have hb5 := (hb4.alloc hb4.size (.cells #[.int .u8 0] 5)).alloc (by have := hb4.size; simp; omega) (.cells #[.int .u8 1] 5)
    have hou : (w4.alloc (.cells #[B 0] 5)).ownsRow w4.heap.size 5 1 (.slice (some ⟨w4.heap.size, 0, none⟩) 1 1) 1 (bs [0]) := World.ownsRow_lit w4 #[B 0] 1 (Nat.le_refl _) (by simp [maxLen]) (by simp)
    have hov : ((w4.alloc (.cells #[B 0] 5)).alloc (.cells #[B 1] 5)).ownsRow (w4.alloc (.cells #[B 0] 5)).heap.size 5 1 (.slice (some ⟨(w4.alloc (.cells #[B 0] 5)).heap.size, 0, none⟩) 1 1) 1 (bs [1]) := World.ownsRow_lit _ #[B 1] 1 (Nat.le_refl _) (by simp [maxLen]) (by simp)
    have hu5 : Rd ((w4.alloc (.cells #[.int .u8 0] 5)).alloc (.cells #[.int .u8 1] 5)) (.slice (some ⟨w4.heap.size, 0, none⟩) 1 1) [0] := (Rd.ofOwn' hou (by simp)).keep ((Below.refl _ _).alloc (Nat.le_refl _) _)
    have hv5 : Rd ((w4.alloc (.cells #[.int .u8 0] 5)).alloc (.cells #[.int .u8 1] 5)) (.slice (some ⟨w4.heap.size + 1, 0, none⟩) 1 1) [1] := by
      have := Rd.ofOwn' hov (by simp)
      rw [World.size_alloc] at this
      exact this
    rw [List.length_append, List.length_replicate, List.length_singleton] at ha5
    clear hr4 hg4 hx4 hb4 hou hov
    generalize (w4.alloc (.cells #[.int .u8 0] 5)).alloc (.cells #[.int .u8 1] 5) = w5 at ha5 hg5 hx5 hb5 hu5 hv5 ⊢
    have hda := deg_one n
    have hdx := (G.deg_bounds xi).2
    rw [HXL.out] at hdx
    go_loopg [12, 13, 14, 15, 16, 17] n (fun g va vb vu vv _ _ wr => ∃ (a b u v : List UInt8) (ada adb : Addr) (na nb ca cb : Nat), va = .slice (some ada) na ca ∧ vb = .slice (some adb) nb cb ∧ Hid (na = a.length) ∧ Hid (nb = b.length) ∧ na ≤ 17 ∧ nb ≤ 17 ∧
      Rd wr (.slice (some ada) na ca) a ∧ Rd wr (.slice (some adb) nb cb) b ∧ Rd wr vu u ∧ Rd wr vv v ∧ Hid (G.deg b < G.deg a) ∧ Hid (G.deg b + 1 ≤ g) ∧ u.length + 17 * g ≤ 1000 ∧ v.length + 17 * g ≤ 1000 ∧ 1 ≤ v.length ∧
      Hid (G.euc ((n : Int) + l.length) g a b u v = FB) ∧ Rd wr vg gm ∧ Below w.heap.size w wr)
    case atStart =>
      refine ⟨_, xi, [0], [1], _, _, n + 1, n, _, _, rfl, rfl, Lib.hid (by simp), Lib.hid HXL.out.symm, by omega, by omega, ha5, hx5, hu5, hv5, Lib.hid (by omega), Lib.hid (by omega), by simp; omega, by simp; omega, by simp, Lib.hid HF.out.symm, hg5, hb5⟩
    case round =>
      clear ha5 hg5 hx5 hb5 hu5 hv5 hda hdx
      obtain ⟨a, b, u, v, ada, adb, na, nb, ca, cb, rfl, rfl, HA, HB, hna, hnb, ha, hb', hu, hv', HD, HE, hul, hvl, hv1, HR, hg, hb⟩ := hrel
      have hd := G.deg_bounds b
      rw [← HB.out] at hd
      obtain ⟨d, hdd⟩ : ∃ d, d = G.deg b := ⟨_, rfl⟩
      rw [← hdd] at hd
      have HDD := Lib.hid hdd; clear hdd
      go_wp2_with fail
      refine (degree_any _ b _ hb').mono ?_
      rintro e w' ⟨rfl, rfl⟩
      rw [← HDD.out]
      by_cases hlt : (n : Int) + l.length ≤ 2 * d
      · obtain ⟨m, hm⟩ : ∃ m : Nat, d = m := ⟨d.toNat, by omega⟩
        obtain ⟨g, rfl⟩ : ∃ g, gk = g + 1 := ⟨gk - 1, by have := HE.out; have := HDD.out; omega⟩
        have hdt : decide ((n : Int) + l.length ≤ 2 * d) = true := decide_eq_true hlt
        have HT := Lib.hid hlt; clear hlt
        have HM := Lib.hid hm; clear hm
        have hma : m < na := by have := HD.out; have := (G.deg_bounds a).2; have := HDD.out; have := HM.out; have := HA.out; omega
        have hdb : G.deg b = (m : Int) := by rw [← HDD.out, HM.out]
        have ha' : Rd wr (.slice (some ada) a.length ca) a := by rw [← HA.out]; exact ha
        have hma' : m < a.length := by rw [← HA.out]; exact hma
        have HC := Lib.hid (divide_any ada ca (.slice (some adb) nb cb) a b m wr ha' hb' hdb hma' (by rw [← HA.out]; omega))
        rw [← HA.out] at HC
        have hql := (G.divide_len a b).1
        rw [hdb, ← HA.out] at hql
        have HDb := Lib.hid hdb; clear hdb
        clear ha' hma'
        obtain ⟨Q, hQ⟩ : ∃ Q, Q = (G.divide a b).1 := ⟨_, rfl⟩
        obtain ⟨R, hRr⟩ : ∃ R, R = (G.divide a b).2 := ⟨_, rfl⟩
        rw [← hQ] at HC hql
        rw [← hRr] at HC
        have hdeg := G.divide_deg a b (by rw [HDb.out]; omega)
        rw [← hRr] at hdeg
        have HDeg := Lib.hid hdeg; clear hdeg
        have hQl : Q.length ≤ 17 := by omega
        have hQ1 : 1 ≤ Q.length := by omega
        clear hql
        have HQ := Lib.hid hQ; clear hQ
        have HRr := Lib.hid hRr; clear hRr
        go_wp2_with fail
        refine HC.out.mono ?_
        rintro e w6 ⟨g1, c1, g2, c2, rfl, hq6, hr6, hrl, hb6⟩
        have hb6' := hb'.keep hb6
        have hu6 := hu.keep hb6
        have hv6 := hv'.keep hb6
        have hg6 := hg.keep hb6
        have hB6 := hb.trans (hb6.mono hb.size)
        have HRl := Lib.hid hrl; clear hrl
        clear ha hb' hu hv' hg hb hb6
        clear HC
        go_wp2_with fail
        refine (times_any _ _ Q v _ hq6 hv6).mono ?_
        rintro e w7 ⟨vqv, rfl, ho7, hb7⟩
        have hql7 := prod_len_le Q v
        have hq7 : Rd w7 vqv (G.prod Q v) := Rd.ofOwn ho7 (by omega)
        have hr7 := hr6.keep hb7
        have hb7' := hb6'.keep hb7
        have hu7 := hu6.keep hb7
        have hv7 := hv6.keep hb7
        have hg7 := hg6.keep hb7
        have hB7 := hB6.trans (hb7.mono hB6.size)
        clear hq6 hr6 hb6' hu6 hv6 hg6 hB6 hb7 ho7
        go_wp2_with fail
        refine (plus_any _ vqv u (G.prod Q v) _ hu7 hq7).mono ?_
        rintro e w8 ⟨vn, rfl, ho8, hb8⟩
        have hpl8 := G.plus_len u (G.prod Q v)
        have hql8 : (G.prod Q v).length ≤ v.length + 17 := by omega
        have hpl8' : (G.plus u (G.prod Q v)).length + 17 * g ≤ 1000 := by omega
        have hpl9 : (G.prod Q v).length = Q.length + v.length - 1 := G.prod_length Q v (by intro e; rw [e] at hQ1; simp at hQ1) (by intro e; rw [e] at hv1; simp at hv1)
        have hpr8 : 1 ≤ (G.plus u (G.prod Q v)).length := by omega
        clear hpl9
        have hn8 : Rd w8 vn (G.plus u (G.prod Q v)) := Rd.ofOwn ho8 (by omega)
        have hr8 := hr7.keep hb8
        have hb8' := hb7'.keep hb8
        have hv8 := hv7.keep hb8
        have hg8 := hg7.keep hb8
        have hB8 := hB7.trans (hb8.mono hB7.size)
        clear hpl8 hql8 hq7 hr7 hb7' hu7 hv7 hg7 hB7 hb8 ho8 hql7
        go_wp2_with fail
        go_roundg g
        case rel =>
          refine ⟨b, R, v, G.plus u (G.prod Q v), _, _, nb, na, cb, c2, rfl, rfl, HB, Lib.hid HRl.out.symm, hnb, hna, hb8', hr8, hv8, hn8, HDeg, Lib.hid ?_, by omega, hpl8', hpr8, Lib.hid ?_, hg8, hB8⟩
          · have := HDeg.out; have := HE.out; omega
          · have := HR.out
            rw [G.euc, if_pos (by rw [← HDD.out]; exact HT.out), ← HQ.out, ← HRr.out] at this
            exact this
        case measure => omega
      · have hdt : decide ((n : Int) + l.length ≤ 2 * d) = false := decide_eq_false hlt
        have hfin : (b, v) = FB := by
          have := HR.out
          rw [← this]
          cases gk with
          | zero => rfl
          | succ g => rw [G.euc, if_neg (by rw [← HDD.out]; exact hlt)]
        have HFin := Lib.hid hfin; clear hfin
        clear hlt
        go_wp2_with fail
        have hpl9 : (G.prod v gm).length = v.length + gm.length - 1 := G.prod_length v gm (by intro e; rw [e] at hv1; simp at hv1) (by intro e; rw [e] at hgl; simp at hgl)
        have hpp : 1 ≤ (G.prod v gm).length := by omega
        have hpp2 : (G.prod v gm).length ≤ 2000 := by omega
        clear hpl9
        refine (times_any _ _ v gm _ hv' hg).mono ?_
        rintro e w6 ⟨vpsi, rfl, ho6, hb6⟩
        have hpsi6 : Rd w6 vpsi (G.prod v gm) := Rd.ofOwn ho6 (by omega)
        have hb6' := hb'.keep hb6
        have hB6 := hb.trans (hb6.mono hb.size)
        clear ha hb' hu hv' hg hb hb6 ho6
        go_wp2_with fail
        have HOo : Hid (G.repair p (G.prod v gm) b = o) := Lib.hid (by rw [HO.out, ← HFin.out])
        refine (repair_any p (G.prod v gm) b _ _ _ h2 hpsi6 hb6' hpp).mono ?_
        rintro e w7 ⟨rfl, hb7⟩
        rw [HOo.out]
        have hB7 := hB6.trans (hb7.mono hB6.size)
        clear hpsi6 hb6' hB6 hb7
        have hol : o.length = p.length := by rw [HO.out, G.repair_length]
        have HOl := Lib.hid hol; clear hol
        go_wp2_with fail
        refine (changes_any p o _ l _ HOl.out h2 (hv0.keepW (fun k hk => hB7.block k hk))).mono ?_
        rintro e w8 ⟨rfl, hb8⟩
        have hB8 := hB7.trans (hb8.mono hB7.size)
        clear hB7 hb8
        have hoth := G.othN_le p o l p.length
        obtain ⟨OT, hOT⟩ : ∃ OT, OT = G.othN p o l p.length := ⟨_, rfl⟩
        rw [← hOT] at hoth ⊢
        have HOT := Lib.hid hOT; clear hOT
        obtain ⟨AL, hAL⟩ : ∃ AL, AL = G.allN p o p.length := ⟨_, rfl⟩
        rw [← hAL]
        have HAL := Lib.hid hAL; clear hAL
        have hol' : o.length ≤ 9223372036854775807 := by rw [HOl.out]; omega
        go_wp2_with fail
        refine (valid_any o n _ hol').mono ?_
        rintro e w9 ⟨rfl, hb9⟩
        have hB9 := hB8.trans (hb9.mono hB8.size)
        clear hB8 hb9
        cases hvb : G.validB o n with
        | false =>
          have HV := Lib.hid hvb; clear hvb
          go_wp2_with fail
          go_ret3
          exact DecOut.no (by rw [HV.out]; simp) hB9
        | true =>
          have HV := Lib.hid hvb; clear hvb
          by_cases hgt : 2 * OT + l.length ≤ n
          · have hgd : decide ((n : Int) < 2 * (OT : Int) + l.length) = false := by rw [decide_eq_false_iff_not]; omega
            have HGt := Lib.hid hgt; clear hgt
            go_wp2_with fail
            go_ret3
            rw [HAL.out]
            exact DecOut.yes HV.out (by rw [← HOT.out]; exact HGt.out) hB9
          · have hgd : decide ((n : Int) < 2 * (OT : Int) + l.length) = true := by rw [decide_eq_true_eq]; omega
            have HGt := Lib.hid hgt; clear hgt
            go_wp2_with fail
            go_ret3
            exact DecOut.no (by rw [← HOT.out]; exact fun h => HGt.out h.2) hB9
theorem decode_any (p : List UInt8) (n : Int) (ve : Value) (l : List Int) (w : World) (hp : p.length ≤ 9223372036854775807) (hv : RdI w ve l) (hl : l.length ≤ 1073741824) :
    Calls Tryz.prog 89 #[.string (str p), .int .i64 n, ve] w fun e w' => e = .returned (.tuple #[.string (str (G.decode p n l).1), .int .i64 (G.decode p n l).2.1, .int .i64 (G.decode p n l).2.2]) ∧ Below w.heap.size w w' := by
  unfold G.decode
  cases h : G.shapedB p n with
  | false =>
    refine (decode_bad p n ve l w hp ?_ h).mono fun e w' hh => by simpa using hh
    obtain ⟨_, ⟨a, c, _, _, rfl, _, _⟩, _⟩ := hv
    exact ⟨_, _, _, rfl⟩
  | true =>
    obtain ⟨h1, h2, h3, h4, h5⟩ := (G.shapedB_iff p n).1 h
    obtain ⟨m, rfl⟩ : ∃ m : Nat, n = m := ⟨n.toNat, by omega⟩
    cases hq : G.posB p.length l with
    | false => exact (decode_pos p m ve l w h hv hl hq).mono fun e w' hh => by simpa using hh
    | true =>
      by_cases hlm : m < l.length
      · exact (decode_many p m ve l w h hv hlm hl hq).mono fun e w' hh => by simpa [hlm] using hh
      · have hlm' : ¬ ((m : Int) < (l.length : Int)) := by omega
        by_cases hz : l = [] ∧ G.zeroB (G.xi p m l) = true
        · obtain ⟨rfl, hz⟩ := hz
          refine (decode_same p m ve w h hv hz).mono fun e w' hh => ?_
          have hm0 : ¬ ((m : Int) < 0) := by omega
          simpa [hz, hm0] using hh
        · refine (decode_ok p m ve l w h hv (by omega) hq (fun h0 => ?_)).mono fun e w' hh => ?_
          · rw [Bool.eq_false_iff]; intro hzz; exact hz ⟨List.eq_nil_of_length_eq_zero h0, hzz⟩
          · obtain ⟨rfl, hb⟩ := hh
            refine ⟨?_, hb⟩
            simp only [Int.toNat_natCast, hlm', if_false, Bool.true_eq_false, hz]
            split <;> rfl
end Go.Proofs.YtflmjdjkfognjaaGreat
namespace Go.Proofs.YtflmjdjkfognjaaGreat
open Go.RowKit
set_option linter.unusedVariables false
end Go.Proofs.YtflmjdjkfognjaaGreat
namespace Go.Proofs.YtflmjdjkfognjaaGreat
open Go.RowKit
set_option linter.unusedVariables false
end Go.Proofs.YtflmjdjkfognjaaGreat
namespace Go.Proofs.YtflmjdjkfognjaaGreat
open Go.RowKit
set_option linter.unusedVariables false
end Go.Proofs.YtflmjdjkfognjaaGreat
namespace Go.Proofs.YtflmjdjkfognjaaGreat
open Go.ChangeShapes Go.WideShapes Go.ChangeAt Go.RowKit
set_option linter.unusedVariables false
section
variable {H : Type} {enc : TypeId × Value → H} {P : Program} {w : World} {base b0 : Nat} {held : Bool}
end
end Go.Proofs.YtflmjdjkfognjaaGreat
namespace Go.Proofs.YtflmjdjkfognjaaGreat
open Go.RowKit
set_option linter.unusedVariables false
namespace G
def encR (l : List UInt8) (n : Int) : List UInt8 × Int := if encB l n then (enc l n.toNat, 0) else ([], 1)
end G
end Go.Proofs.YtflmjdjkfognjaaGreat
namespace Go.Proofs.YtflmjdjkfognjaaGreat
open Go.RowKit Go.Maps
set_option linter.unusedVariables false
theorem lawInt : Keyed Tryz.prog 3 := int_keyed Tryz.underlying3
theorem zeroBool : ∀ w, (zeroValue 4).run Tryz.prog w = .ok (.bool false) w := fun _ => by kernel_rfl
theorem wfI {x : Int} (h1 : -9223372036854775808 ≤ x) (h2 : x ≤ 9223372036854775807) : (Lit.int .i64 x).wf = true := by simp [Lit.wf, IntKind.min, IntKind.max, IntKind.signed, IntKind.bits]; omega
theorem plainElem_bool_inv {H : Type} {P : Program} {e : TypeId} (he : P.underlying e = some .bool) {v : Value} {z : DataW H × List MemPlace} (h : plainElem P e v = some z) : ∃ a, v = .bool a ∧ z = (.lit (.bool a), []) := by
  unfold plainElem at h
  rw [he] at h
  cases v <;> simp at h
  exact ⟨_, rfl, h.symm⟩
def SetI (w : World) (b n : Nat) (f : Int → Bool) : Prop :=
  ∃ D : DataW Unit, w.ownsMap Tryz.prog 3 (plainElem Tryz.prog 4) b n D ∧ ∀ x, -9223372036854775808 ≤ x → x ≤ 9223372036854775807 → D.atKey (.int .i64 x) (.lit (.bool false)) = .lit (.bool (f x))
theorem SetI.made (w : World) : SetI (w.alloc (.map #[] 0)) w.heap.size 0 (fun _ => false) := ⟨.map [], World.ownsMap_made _ _ _ _, fun x _ _ => rfl⟩
theorem SetI.lt {w : World} {b n : Nat} {f : Int → Bool} (h : SetI w b n f) : b < w.heap.size := by
  obtain ⟨D, h, _⟩ := h; exact h.lt
theorem SetI.kept {w w' : World} {b n : Nat} {f : Int → Bool} (h : SetI w b n f) (hk : w'.heap[b]? = w.heap[b]?) : SetI w' b n f := by
  obtain ⟨D, ⟨es, clock, hb, F, hs, hD⟩, hf⟩ := h
  exact ⟨D, ⟨es, clock, hk.trans hb, F, hs, hD⟩, hf⟩
theorem SetI.below {w w' : World} {b n : Nat} {f : Int → Bool} (h : SetI w b n f) (hb : Below w.heap.size w w') : SetI w' b n f := h.kept (hb.block b h.lt)
theorem SetI.run {w : World} {b n : Nat} {f : Int → Bool} (h : SetI w b n f) (x : Int) (h1 : -9223372036854775808 ≤ x) (h2 : x ≤ 9223372036854775807) :
    (Instr.lookup 52 (.map (some b)) (.int .i64 x) false).run Tryz.prog w = .ok (.bool (f x)) w := by
  obtain ⟨D, hown, hf⟩ := h
  obtain ⟨v, ps, hrun, hv⟩ := hown.lookup lawInt Tryz.underlying52 (zeroBool w) (plainElem_bool Tryz.underlying4 false) (keyOf_int_mk Tryz.underlying3 (wfI h1 h2))
  obtain ⟨c, rfl, hc⟩ := plainElem_bool_inv Tryz.underlying4 hv
  simp only [Prod.mk.injEq] at hc
  rw [hf x h1 h2] at hc
  have : c = f x := by simpa using hc.1.symm
  rw [hrun, this]
def setF (f : Int → Bool) (x : Int) (v : Bool) : Int → Bool := fun y => if y = x then v else f y
theorem wpList_setI {w : World} {ops : Array Oper} {rest : List Oper} {o : Oper} {a : Act} {Q : Exit → Act → World → Prop}
    (hg : o.guard = none) (m x v : Operand) (hop : o.op = Op.mapUpdate 52 m x v) {b n : Nat} {f : Int → Bool} (hown : SetI w b n f) (hm : a.eval m = .map (some b)) {X : Int} (hx : a.eval x = .int .i64 X) {V : Bool} (hv : a.eval v = .bool V)
    (h1 : -9223372036854775808 ≤ X) (h2 : X ≤ 9223372036854775807) (hn : n < 1000000)
    (hK : ∀ w', SetI w' b (n + 1) (setF f X V) → w.grownBy w' (some b) → wpList Tryz.prog ops Q rest (a.put o.dst undef) w') : wpList Tryz.prog ops Q (o :: rest) a w := by
  obtain ⟨D, hown, hf⟩ := hown
  refine wpList_mapUpdate_own _ hg m x v 52 hop 3 4 lawInt Tryz.underlying52 _ b n D hm hown (by unfold maxLen; omega) _ _ _ hx hv (keyOf_int_mk Tryz.underlying3 (wfI h1 h2)) _ [] (plainElem_bool Tryz.underlying4 V) ?_
  intro w' ho hgr
  refine hK w' ⟨_, ho, fun y g1 g2 => ?_⟩ hgr
  unfold setF
  by_cases e : y = X
  · subst e
    rw [if_pos rfl, atKey_put_same hown.isMap]
    trivial
  · rw [if_neg e, atKey_put_other (by simpa using e), hf y g1 g2]
end Go.Proofs.YtflmjdjkfognjaaGreat
