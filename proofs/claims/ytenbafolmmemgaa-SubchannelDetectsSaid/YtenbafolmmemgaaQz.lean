/- Chapter 10: the frame of twelve bytes, plain: what is encoded comes back; a change within two bytes is seen. -/
import Derived.Test.YtenbafolmmemgaaQf
import Derived.Test.YtenbafolmmemgaaQda
import Derived.Test.YtenbafolmmemgaaQdb
namespace Go.Proofs.Ytenbafolmmemgaa.W10
open Go.RowKit
set_option linter.unusedVariables false

theorem unbcd_bcd : ∀ k : Nat, k < 100 → unbcd (bcd (k : Int)) = ((k : Int), 0) := by decide +kernel
theorem unbcd_bcd' {n : Int} (h0 : 0 ≤ n) (h1 : n ≤ 99) : unbcd (bcd n) = (n, 0) := by
  have h := unbcd_bcd n.toNat (by omega)
  rwa [Int.toNat_of_nonneg h0] at h
theorem sp_bcd : ∀ k : Nat, k < 100 → isSp (bcd (k : Int)) = false := by decide +kernel
theorem sp_bcd' {n : Int} (h0 : 0 ≤ n) (h1 : n ≤ 99) : isSp (bcd n) = false := by
  have h := sp_bcd n.toNat (by omega)
  rwa [Int.toNat_of_nonneg h0] at h
theorem un_num {n : Int} (h : (0 ≤ n ∧ n ≤ 99) ∨ isSp n = true) : un (num n) = n ∧ unB (num n) = true := by
  cases hs : isSp n with
  | true => rw [num_sp hs]; exact un_sp hs
  | false =>
    have h2 : 0 ≤ n ∧ n ≤ 99 := by rcases h with h | h; exact h; rw [hs] at h; cases h
    have h3 := un_no (sp_bcd' h2.1 h2.2)
    rw [num_d h2.2]
    rw [unbcd_bcd' h2.1 h2.2] at h3
    exact ⟨h3.1, h3.2⟩
/-- the reference's reading of a track or a point -/
def rn (c : Int) : Int := if (unbcd c).2 = 0 then (unbcd c).1 else c
theorem rn_num {n : Int} (h : (0 ≤ n ∧ n ≤ 99) ∨ isSp n = true) : rn (num n) = n := by
  cases hs : isSp n with
  | true =>
    rw [num_sp hs]
    rcases isSp_iff.1 hs with h | h | h | h <;> subst h <;> decide
  | false =>
    have h2 : 0 ≤ n ∧ n ≤ 99 := by rcases h with h | h; exact h; rw [hs] at h; cases h
    rw [num_d h2.2]
    unfold rn
    rw [unbcd_bcd' h2.1 h2.2]
    rfl
theorem okD_bcd {m s f : Int} (h : okA m s f) : okD (bcd m) (bcd s) (bcd f) := by
  obtain ⟨h1, h2, h3, h4, h5, h6⟩ := h
  unfold okD
  rw [unbcd_bcd' h1 h2, unbcd_bcd' h3 (by omega), unbcd_bcd' h5 (by omega)]
  exact ⟨rfl, rfl, rfl, vB_t ⟨h1, h2, h3, h4, h5, h6⟩⟩
theorem d_bcd {m s f : Int} (h : okA m s f) : dM (bcd m) (bcd s) (bcd f) = m ∧ dS (bcd m) (bcd s) (bcd f) = s ∧ dF (bcd m) (bcd s) (bcd f) = f ∧ dE (bcd m) (bcd s) (bcd f) = 0 := by
  have h0 := d_yes (okD_bcd h)
  obtain ⟨h1, h2, h3, h4, h5, h6⟩ := h
  rw [unbcd_bcd' h1 h2, unbcd_bcd' h3 (by omega), unbcd_bcd' h5 (by omega)] at h0
  exact h0
theorem encL_length (q : Q.Fr) : (encL q).length = 12 := rfl
/-- the bytes of a frame that is right -/
theorem encL_at {q : Q.Fr} (g : Good q) : bn (encL q) 0 = q.ctl * 16 + 1 ∧ bn (encL q) 1 = num q.trk ∧ bn (encL q) 2 = num q.pt ∧ bn (encL q) 3 = bcd q.rm ∧ bn (encL q) 4 = bcd q.rs ∧ bn (encL q) 5 = bcd q.rf ∧ bn (encL q) 6 = 0 ∧
    bn (encL q) 7 = bcd q.am ∧ bn (encL q) 8 = bcd q.as ∧ bn (encL q) 9 = bcd q.af := by
  have n1 := num_lt g.t
  have n2 := num_lt g.p
  have b0 := g.c0
  have b1 := g.c1
  obtain ⟨r1, r2, r3, r4, r5, r6⟩ := g.r
  obtain ⟨a1, a2, a3, a4, a5, a6⟩ := g.a
  have d := fun (n : Int) (h0 : 0 ≤ n) (h1 : n ≤ 99) => by8_nat (bcd_lt h0 h1).1 (bcd_lt h0 h1).2
  exact ⟨by8_nat (by omega) (by omega), by8_nat n1.1 n1.2, by8_nat n2.1 n2.2, d _ r1 r2, d _ r3 (by omega), d _ r5 (by omega), rfl, d _ a1 a2, d _ a3 (by omega), d _ a5 (by omega)⟩
/-- the frame that bytes may say -/
def cand (l : List UInt8) : Q.Fr := ⟨bn l 0 / 16, un (bn l 1), un (bn l 2), dM (bn l 3) (bn l 4) (bn l 5), dS (bn l 3) (bn l 4) (bn l 5), dF (bn l 3) (bn l 4) (bn l 5), dM (bn l 7) (bn l 8) (bn l 9), dS (bn l 7) (bn l 8) (bn l 9), dF (bn l 7) (bn l 8) (bn l 9)⟩
def rcand (l : List UInt8) : Q.Fr := ⟨bn l 0 / 16, rn (bn l 1), rn (bn l 2), dM (bn l 3) (bn l 4) (bn l 5), dS (bn l 3) (bn l 4) (bn l 5), dF (bn l 3) (bn l 4) (bn l 5), dM (bn l 7) (bn l 8) (bn l 9), dS (bn l 7) (bn l 8) (bn l 9), dF (bn l 7) (bn l 8) (bn l 9)⟩
/-- the bytes are those of this frame -/
def Is (q : Q.Fr) (l : List UInt8) : Prop := frB q = true ∧ encL q = l
instance (q : Q.Fr) (l : List UInt8) : Decidable (Is q l) := by unfold Is; infer_instance
theorem Is.cand {q : Q.Fr} {l : List UInt8} (h : Is q l) : cand l = q ∧ rcand l = q := by
  obtain ⟨h1, rfl⟩ := h
  have g := frB_good h1
  obtain ⟨e0, e1, e2, e3, e4, e5, e6, e7, e8, e9⟩ := encL_at g
  have hr := d_bcd g.r
  have ha := d_bcd g.a
  unfold W10.cand rcand
  rw [e0, e1, e2, e3, e4, e5, e7, e8, e9, (un_num g.t).1, (un_num g.p).1, rn_num g.t, rn_num g.p, hr.1, hr.2.1, hr.2.2.1, ha.1, ha.2.1, ha.2.2.1]
  have : (q.ctl * 16 + 1) / 16 = q.ctl := by omega
  rw [this]
  exact ⟨rfl, rfl⟩
/-- every part can be read -/
theorem Is.parts {q : Q.Fr} {l : List UInt8} (h : Is q l) : unB (bn l 1) = true ∧ unB (bn l 2) = true ∧ dE (bn l 3) (bn l 4) (bn l 5) = 0 ∧ dE (bn l 7) (bn l 8) (bn l 9) = 0 ∧ bn l 6 = 0 ∧ bn l 0 % 16 = 1 := by
  obtain ⟨h1, rfl⟩ := h
  have g := frB_good h1
  obtain ⟨e0, e1, e2, e3, e4, e5, e6, e7, e8, e9⟩ := encL_at g
  rw [e0, e1, e2, e3, e4, e5, e6, e7, e8, e9]
  exact ⟨(un_num g.t).2, (un_num g.p).2, (d_bcd g.r).2.2.2, (d_bcd g.a).2.2.2, rfl, by omega⟩
/-- what is decoded -/
def decR (l : List UInt8) : Q.Fr × Int :=
  if l.length ≠ 12 then (Q.z, 1) else if chk (l.take 10) ≠ l.drop 10 then (Q.z, 9) else if Is (cand l) l then (cand l, 0) else (Q.z, 10)
theorem decR_len {l : List UInt8} (h : l.length ≠ 12) : decR l = (Q.z, 1) := if_pos h
theorem decR_chk {l : List UInt8} (h : l.length = 12) (h2 : chk (l.take 10) ≠ l.drop 10) : decR l = (Q.z, 9) := by unfold decR; rw [if_neg (by simpa using h), if_pos h2]
theorem decR_yes {l : List UInt8} (h : l.length = 12) (h2 : chk (l.take 10) = l.drop 10) (h3 : Is (cand l) l) : decR l = (cand l, 0) := by unfold decR; rw [if_neg (by simpa using h), if_neg (by simpa using h2), if_pos h3]
theorem decR_no {l : List UInt8} (h : l.length = 12) (h2 : chk (l.take 10) = l.drop 10) (h3 : ¬ Is (cand l) l) : decR l = (Q.z, 10) := by unfold decR; rw [if_neg (by simpa using h), if_neg (by simpa using h2), if_neg h3]
theorem rIs {l : List UInt8} : Is (cand l) l ↔ Is (rcand l) l := by
  constructor
  · intro h; rw [h.cand.2]; exact h
  · intro h; rw [h.cand.1]; exact h
/-- what was encoded comes back -/
theorem dec_enc {q : Q.Fr} (h : frB q = true) : decR (encL q) = (q, 0) := by
  have hi : Is q (encL q) := ⟨h, rfl⟩
  have hc := hi.cand.1
  rw [decR_yes (encL_length q) rfl (by rw [hc]; exact hi), hc]
theorem dec_ok {l : List UInt8} (h : (decR l).2 = 0) : Is (decR l).1 l := by
  unfold decR at h ⊢
  split at h
  · simp at h
  · rename_i h1
    split at h
    · simp at h
    · rename_i h2
      split at h
      · rename_i h3
        rw [if_neg h1, if_neg h2, if_pos h3]
        exact h3
      · simp at h
theorem dec_bad {l : List UInt8} (h : (decR l).2 ≠ 0) : (decR l).1 = Q.z := by
  unfold decR at h ⊢
  split
  · rfl
  · split
    · rfl
    · split
      · rename_i h1 h2 h3
        rw [if_neg h1, if_neg h2, if_pos h3] at h
        exact (h rfl).elim
      · rfl
end Go.Proofs.Ytenbafolmmemgaa.W10
