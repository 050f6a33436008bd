/- Shaken out of XQda XQz -/
import Derived.Test.YtflmjdjkfognjaaGreatTp29
import Derived.Test.YtflmjdjkfognjaaGreatTp27
namespace Go.Proofs.YtflmjdjkfognjaaGreat.W10
open Go.RowKit Go.Maps
set_option linter.unusedVariables false
theorem sp_not {n : Int} (h : isSp n = false) (z : DataW Unit) : spD.atKey (.int .i64 n) z = z := by
  have h2 : ¬ (n = 160 ∨ n = 161 ∨ n = 162 ∨ n = 170) := fun e => by rw [isSp_iff.2 e] at h; cases h
  have e1 : (Lit.int IntKind.i64 160).sameKey (.int .i64 n) = false := by simp [Lit.sameKey]; omega
  have e2 : (Lit.int IntKind.i64 161).sameKey (.int .i64 n) = false := by simp [Lit.sameKey]; omega
  have e3 : (Lit.int IntKind.i64 162).sameKey (.int .i64 n) = false := by simp [Lit.sameKey]; omega
  have e4 : (Lit.int IntKind.i64 170).sameKey (.int .i64 n) = false := by simp [Lit.sameKey]; omega
  simp only [spD, DataW.atKey, List.find?_cons, e1, e2, e3, e4, List.find?_nil]
theorem sp_val {x c : Int} (h : ∀ z : DataW Unit, spD.atKey (.int .i64 x) z = .lit (.int .u8 c)) : isSp x = true ∧ x = c := by
  cases hs : isSp x with
  | true => exact ⟨rfl, sp_c ((sp_at hs (.map [])).symm.trans (h _))⟩
  | false => have := (sp_not hs (.map [])).symm.trans (h _); simp at this
/-- no number that has come is the byte -/
def NoSp (left : Lit → Bool) (c : Int) : Prop := ∀ n : Int, isSp n = true → left (.int .i64 n) = false → n ≠ c
theorem noSp_start (c : Int) : NoSp (Maps.has spD) c := fun n h1 h2 => by rw [sp_has, h1] at h2; cases h2
theorem noSp_step {left : Lit → Bool} {c x : Int} (h : NoSp left c) (hx : x ≠ c) : NoSp (fun z => left z && !z.sameKey (.int .i64 x)) c := fun n h1 h2 => by
  cases hl : left (.int .i64 n) with
  | false => exact h n h1 hl
  | true =>
    simp only [hl, Bool.true_and, Bool.not_eq_false', Lit.sameKey, decide_eq_true_eq] at h2
    have : n = x := by simpa using h2
    rw [this]; exact hx
theorem noSp_end {left : Lit → Bool} {c : Int} (h : NoSp left c) (hl : ∀ k, left k = false) : isSp c = false := by
  cases hs : isSp c with
  | false => rfl
  | true => exact (h c hs (hl _) rfl).elim
/-- the number of a byte of a track or a point, and whether there is one -/
def un (c : Int) : Int := if isSp c = true then c else (unbcd c).1
def unB (c : Int) : Bool := isSp c || decide ((unbcd c).2 = 0)
theorem un_sp {c : Int} (h : isSp c = true) : un c = c ∧ unB c = true := ⟨if_pos h, by unfold unB; rw [h]; rfl⟩
theorem un_no {c : Int} (h : isSp c = false) : un c = (unbcd c).1 ∧ unB c = decide ((unbcd c).2 = 0) := ⟨if_neg (by rw [h]; decide), by unfold unB; rw [h]; rfl⟩
theorem eql_dec (x : Int) : (x == 0) = decide (x = 0) := by by_cases h : x = 0 <;> simp [h]
theorem ret_ib {a a' : Int} {b b' : Bool} (h : a = a') (g : b = b') : Ending.returned (.tuple #[.int .i64 a, .bool b]) = .returned (.tuple #[.int .i64 a', .bool b']) := by rw [h, g]
set_option maxRecDepth 100000 in
set_option maxHeartbeats 4000000 in
theorem unnumber_any (c : Int) (w : World) (h0 : 0 ≤ c) (h1 : c ≤ 255) : Calls Tryz.prog 51 #[.int .u8 c] w (RV (.tuple #[.int .i64 (un c), .bool (unB c)]) w) := by
  go_enter Tryz.func51, Tryz.ntmps51
  go_wp2_with fail
  refine (special_any _).mono ?_
  rintro e w1 ⟨b, rfl, hown, hb1⟩
  obtain ⟨r, hr⟩ : ∃ r, r = w1.heap.size := ⟨_, rfl⟩
  go_wp2_with (at_range; (refine wpList_range_own _ rfl _ 201 rfl 3 5 lawInt Tryz.underlying201 _ b 4 _ rfl hown ?_; intro w0 hrg0 hg0 hs0))
  have hb2 := hb1.grown hg0 hb1.size (fun k hk => by cases hk)
  rw [← hr] at hrg0 ⊢
  have hrw : w.heap.size ≤ r := by have := hb1.size; omega
  clear hg0 hs0 hown hb1 hr
  go_frame
  go_loopw [4] (fun _ wr => ∃ (left : Lit → Bool) (cnt : Nat), wr.ranges Tryz.prog 3 (plainElem Tryz.prog 5) b r 4 spD left cnt ∧ NoSp left c ∧ Below w.heap.size w wr)
    (fun _ wr => wr.rangeLeft b r)
  case atStart => exact ⟨_, _, hrg0, noSp_start c, hb2⟩
  case round =>
    clear hrg0 hb2
    obtain ⟨left, cnt, hrg, hns, hb⟩ := hrel
    have HN := Lib.hid hns; clear hns
    go_wp2_with (at_next; (refine wpList_next_ranges_ii _ rfl _ rfl 3 5 .i64 .u8 lawInt Tryz.underlying3 Tryz.underlying5 b r 4 _ _ _ rfl hrg ?_ ?_))
    · intro _ hl0
      have hsp := noSp_end HN.out hl0
      obtain ⟨hu1, hu2⟩ := un_no hsp
      have HU1 := Lib.hid hu1; have HU2 := Lib.hid hu2
      clear hl0 hsp hu1 hu2
      go_wp2_with (go_at_call 118; refine (unbcd_any c _ h0 h1).mono ?_; rintro e w2 ⟨rfl, rfl⟩)
      go_ret2
      exact ⟨ret_ib HU1.out.symm ((eql_dec _).trans HU2.out.symm), hb⟩
    · intro x y w2 cnt1 hwx hwc hlx hat hrg1 hlt hg1 hs1 hen
      have hb3 := hb.grown hg1 hb.size (fun k hk => by cases hk; exact hrw)
      obtain ⟨hsx, hxy⟩ := sp_val hat
      subst hxy
      have HS := Lib.hid hsx
      have HRG := Lib.hid hrg1
      have HL := Lib.hid (show wr.rangeLeft b r = cnt from hrg.left_eq)
      clear hat hsx hwx hwc hlx hg1 hs1 hrg hrg1
      by_cases hxc : x = c
      · subst hxc
        obtain ⟨hu1, hu2⟩ := un_sp HS.out
        have HU1 := Lib.hid hu1; have HU2 := Lib.hid hu2
        clear hu1 hu2
        go_wp2_with fail
        go_ret2
        exact ⟨ret_ib HU1.out.symm HU2.out.symm, hb3⟩
      · have hd : (x == c) = false := by simpa using hxc
        go_wp2_with fail
        go_roundw
        case rel => exact ⟨_, cnt1, HRG.out, noSp_step HN.out hxc, hb3⟩
        case measure => rw [HRG.out.left_eq, HL.out]; exact hlt
end Go.Proofs.YtflmjdjkfognjaaGreat.W10
namespace Go.Proofs.YtflmjdjkfognjaaGreat.W10
open Go.RowKit
set_option linter.unusedVariables false
theorem unbcd_bcd : ∀ k : Nat, k < 100 → unbcd (bcd (k : Int)) = ((k : Int), 0) := by decide +kernel
theorem unbcd_bcd' {n : Int} (h0 : 0 ≤ n) (h1 : n ≤ 99) : unbcd (bcd n) = (n, 0) := by
  have h := unbcd_bcd n.toNat (by omega)
  rwa [Int.toNat_of_nonneg h0] at h
theorem sp_bcd : ∀ k : Nat, k < 100 → isSp (bcd (k : Int)) = false := by decide +kernel
theorem sp_bcd' {n : Int} (h0 : 0 ≤ n) (h1 : n ≤ 99) : isSp (bcd n) = false := by
  have h := sp_bcd n.toNat (by omega)
  rwa [Int.toNat_of_nonneg h0] at h
theorem un_num {n : Int} (h : (0 ≤ n ∧ n ≤ 99) ∨ isSp n = true) : un (num n) = n ∧ unB (num n) = true := by
  cases hs : isSp n with
  | true => rw [num_sp hs]; exact un_sp hs
  | false =>
    have h2 : 0 ≤ n ∧ n ≤ 99 := by rcases h with h | h; exact h; rw [hs] at h; cases h
    have h3 := un_no (sp_bcd' h2.1 h2.2)
    rw [num_d h2.2]
    rw [unbcd_bcd' h2.1 h2.2] at h3
    exact ⟨h3.1, h3.2⟩
/-- the reference's reading of a track or a point -/
def rn (c : Int) : Int := if (unbcd c).2 = 0 then (unbcd c).1 else c
theorem rn_num {n : Int} (h : (0 ≤ n ∧ n ≤ 99) ∨ isSp n = true) : rn (num n) = n := by
  cases hs : isSp n with
  | true =>
    rw [num_sp hs]
    rcases isSp_iff.1 hs with h | h | h | h <;> subst h <;> decide
  | false =>
    have h2 : 0 ≤ n ∧ n ≤ 99 := by rcases h with h | h; exact h; rw [hs] at h; cases h
    rw [num_d h2.2]
    unfold rn
    rw [unbcd_bcd' h2.1 h2.2]
    rfl
theorem okD_bcd {m s f : Int} (h : okA m s f) : okD (bcd m) (bcd s) (bcd f) := by
  obtain ⟨h1, h2, h3, h4, h5, h6⟩ := h
  unfold okD
  rw [unbcd_bcd' h1 h2, unbcd_bcd' h3 (by omega), unbcd_bcd' h5 (by omega)]
  exact ⟨rfl, rfl, rfl, vB_t ⟨h1, h2, h3, h4, h5, h6⟩⟩
theorem d_bcd {m s f : Int} (h : okA m s f) : dM (bcd m) (bcd s) (bcd f) = m ∧ dS (bcd m) (bcd s) (bcd f) = s ∧ dF (bcd m) (bcd s) (bcd f) = f ∧ dE (bcd m) (bcd s) (bcd f) = 0 := by
  have h0 := d_yes (okD_bcd h)
  obtain ⟨h1, h2, h3, h4, h5, h6⟩ := h
  rw [unbcd_bcd' h1 h2, unbcd_bcd' h3 (by omega), unbcd_bcd' h5 (by omega)] at h0
  exact h0
theorem encL_length (q : Q.Fr) : (encL q).length = 12 := rfl
/-- the bytes of a frame that is right -/
theorem encL_at {q : Q.Fr} (g : Good q) : bn (encL q) 0 = q.ctl * 16 + 1 ∧ bn (encL q) 1 = num q.trk ∧ bn (encL q) 2 = num q.pt ∧ bn (encL q) 3 = bcd q.rm ∧ bn (encL q) 4 = bcd q.rs ∧ bn (encL q) 5 = bcd q.rf ∧ bn (encL q) 6 = 0 ∧
    bn (encL q) 7 = bcd q.am ∧ bn (encL q) 8 = bcd q.as ∧ bn (encL q) 9 = bcd q.af := by
  have n1 := num_lt g.t
  have n2 := num_lt g.p
  have b0 := g.c0
  have b1 := g.c1
  obtain ⟨r1, r2, r3, r4, r5, r6⟩ := g.r
  obtain ⟨a1, a2, a3, a4, a5, a6⟩ := g.a
  have d := fun (n : Int) (h0 : 0 ≤ n) (h1 : n ≤ 99) => by8_nat (bcd_lt h0 h1).1 (bcd_lt h0 h1).2
  exact ⟨by8_nat (by omega) (by omega), by8_nat n1.1 n1.2, by8_nat n2.1 n2.2, d _ r1 r2, d _ r3 (by omega), d _ r5 (by omega), rfl, d _ a1 a2, d _ a3 (by omega), d _ a5 (by omega)⟩
/-- the frame that bytes may say -/
def cand (l : List UInt8) : Q.Fr := ⟨bn l 0 / 16, un (bn l 1), un (bn l 2), dM (bn l 3) (bn l 4) (bn l 5), dS (bn l 3) (bn l 4) (bn l 5), dF (bn l 3) (bn l 4) (bn l 5), dM (bn l 7) (bn l 8) (bn l 9), dS (bn l 7) (bn l 8) (bn l 9), dF (bn l 7) (bn l 8) (bn l 9)⟩
def rcand (l : List UInt8) : Q.Fr := ⟨bn l 0 / 16, rn (bn l 1), rn (bn l 2), dM (bn l 3) (bn l 4) (bn l 5), dS (bn l 3) (bn l 4) (bn l 5), dF (bn l 3) (bn l 4) (bn l 5), dM (bn l 7) (bn l 8) (bn l 9), dS (bn l 7) (bn l 8) (bn l 9), dF (bn l 7) (bn l 8) (bn l 9)⟩
/-- the bytes are those of this frame -/
def Is (q : Q.Fr) (l : List UInt8) : Prop := frB q = true ∧ encL q = l
instance (q : Q.Fr) (l : List UInt8) : Decidable (Is q l) := by unfold Is; infer_instance
theorem Is.cand {q : Q.Fr} {l : List UInt8} (h : Is q l) : cand l = q ∧ rcand l = q := by
  obtain ⟨h1, rfl⟩ := h
  have g := frB_good h1
  obtain ⟨e0, e1, e2, e3, e4, e5, e6, e7, e8, e9⟩ := encL_at g
  have hr := d_bcd g.r
  have ha := d_bcd g.a
  unfold W10.cand rcand
  rw [e0, e1, e2, e3, e4, e5, e7, e8, e9, (un_num g.t).1, (un_num g.p).1, rn_num g.t, rn_num g.p, hr.1, hr.2.1, hr.2.2.1, ha.1, ha.2.1, ha.2.2.1]
  have : (q.ctl * 16 + 1) / 16 = q.ctl := by omega
  rw [this]
  exact ⟨rfl, rfl⟩
/-- every part can be read -/
theorem Is.parts {q : Q.Fr} {l : List UInt8} (h : Is q l) : unB (bn l 1) = true ∧ unB (bn l 2) = true ∧ dE (bn l 3) (bn l 4) (bn l 5) = 0 ∧ dE (bn l 7) (bn l 8) (bn l 9) = 0 ∧ bn l 6 = 0 ∧ bn l 0 % 16 = 1 := by
  obtain ⟨h1, rfl⟩ := h
  have g := frB_good h1
  obtain ⟨e0, e1, e2, e3, e4, e5, e6, e7, e8, e9⟩ := encL_at g
  rw [e0, e1, e2, e3, e4, e5, e6, e7, e8, e9]
  exact ⟨(un_num g.t).2, (un_num g.p).2, (d_bcd g.r).2.2.2, (d_bcd g.a).2.2.2, rfl, by omega⟩
/-- what is decoded -/
def decR (l : List UInt8) : Q.Fr × Int :=
  if l.length ≠ 12 then (Q.z, 1) else if chk (l.take 10) ≠ l.drop 10 then (Q.z, 9) else if Is (cand l) l then (cand l, 0) else (Q.z, 10)
theorem decR_len {l : List UInt8} (h : l.length ≠ 12) : decR l = (Q.z, 1) := if_pos h
theorem decR_chk {l : List UInt8} (h : l.length = 12) (h2 : chk (l.take 10) ≠ l.drop 10) : decR l = (Q.z, 9) := by unfold decR; rw [if_neg (by simpa using h), if_pos h2]
theorem decR_yes {l : List UInt8} (h : l.length = 12) (h2 : chk (l.take 10) = l.drop 10) (h3 : Is (cand l) l) : decR l = (cand l, 0) := by unfold decR; rw [if_neg (by simpa using h), if_neg (by simpa using h2), if_pos h3]
theorem decR_no {l : List UInt8} (h : l.length = 12) (h2 : chk (l.take 10) = l.drop 10) (h3 : ¬ Is (cand l) l) : decR l = (Q.z, 10) := by unfold decR; rw [if_neg (by simpa using h), if_neg (by simpa using h2), if_neg h3]
/-- what was encoded comes back -/
theorem dec_enc {q : Q.Fr} (h : frB q = true) : decR (encL q) = (q, 0) := by
  have hi : Is q (encL q) := ⟨h, rfl⟩
  have hc := hi.cand.1
  rw [decR_yes (encL_length q) rfl (by rw [hc]; exact hi), hc]
end Go.Proofs.YtflmjdjkfognjaaGreat.W10
