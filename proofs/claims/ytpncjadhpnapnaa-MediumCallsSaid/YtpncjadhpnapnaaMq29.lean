/- The law 'masterdisc/masterdisclaw12.MediumCalls' returns true for every input, and leaves its arguments as they were. -/
import Derived.Test.YtpncjadhpnapnaaMq24
import Derived.Test.YtpncjadhpnapnaaMq25
import Derived.Test.YtpncjadhpnapnaaMq28
import Derived.Test.YtpncjadhpnapnaaSeq
import Derived.Test.YtpncjadhpnapnaaRows
import Derived.Test.YtpncjadhpnapnaaOpen
/- Chapter 12: a medium and the reference's medium side by side. -/
namespace Go.Proofs.Ytpncjadhpnapnaa.D12
open Go.RowKit Go.Maps C9
open D13 (RdI ixI is)
set_option linter.unusedVariables false

/-- the blocks that the reference's medium may lie in -/
def Pz (rb : Nat) (X : Nat → Prop) (k : Nat) : Prop := k ≠ rb ∧ ¬ X k
/-- the medium 'M' at 'g', and the reference's 'N' in the box 'rb' -/
structure Both (w0 : World) (rb : Nat) (w : World) (g : Nat) (M N : Med) (X R : Nat → Prop) (vL vS vD : Value) (SS : List RS) : Prop where
  m : MedW w g M X R
  b : Below w0.heap.size w0 w
  x : ∀ k, X k ∨ R k → w0.heap.size ≤ k ∧ k ≠ rb
  f : RmF (Pz rb X) w vL vS vD N SS
  c : Bx w rb 59 (rmc N vL vS vD)
  r : w0.heap.size ≤ rb
section
variable {w0 w w' W : World} {rb g : Nat} {M N K : Med} {X R : Nat → Prop} {vL vS vD vL2 vS2 vD2 : Value} {SS S2 : List RS}
theorem Both.below (h : Both w0 rb w g M N X R vL vS vD SS) (hb : Below w.heap.size w w') : Both w0 rb w' g M N X R vL vS vD SS :=
  ⟨h.m.below hb, h.b.trans (hb.mono h.b.size), h.x, h.f.step (Agree.of hb) fun _ _ h => h, h.c.call hb, h.r⟩
theorem Both.nx (h : Both w0 rb w g M N X R vL vS vD SS) : ¬ X rb := fun hx => (h.x rb (.inl hx)).2 rfl
theorem Both.act {Z : Int × Med} {e : Ending} (h : Both w0 rb w g M N X R vL vS vD SS) (hw : WrP Z g X R w e w') : e = .returned (.int .i64 Z.1) ∧ (∀ k, k < w.heap.size → ¬ X k → w'.heap[k]? = w.heap[k]?) ∧ ∃ X2 R2, Both w0 rb w' g Z.2 N X2 R2 vL vS vD SS := by
  obtain ⟨he, X2, R2, hm, hc⟩ := hw
  refine ⟨he, hc.block, X2, R2, hm, h.b.trans (hc.below _ h.b.size fun k hk => (h.x k (.inl hk)).1), fun k hk => ?_, ?_, (hc.block rb h.c.lt h.nx).trans h.c, h.r⟩
  · have hs := h.b.size
    have hrl := h.c.lt
    rcases hk with h1 | h1
    · exact (hc.x k h1).elim (fun h2 => h.x k (.inl h2)) (fun h2 => ⟨Nat.le_trans hs h2, by omega⟩)
    · exact (hc.r k h1).elim (fun h2 => h.x k (.inr h2)) (fun h2 => ⟨Nat.le_trans hs h2, by omega⟩)
  · refine h.f.step ⟨hc.size, fun k hk hp => hc.block k hk hp.2⟩ fun k hk hp => ⟨hp.1, fun hx => ?_⟩
    exact (hc.x k hx).elim hp.2 fun h2 => by omega
/-- what a call of the reference leaves -/
theorem Both.ref (h : Both w0 rb w g M N X R vL vS vD SS) (hb : Below w.heap.size w W) {w' : World} (hb2 : Below W.heap.size W w') (hf : RmF (fun k => k < W.heap.size → Pz rb X k) w' vL2 vS2 vD2 K S2) : RmF (Pz rb X) w' vL2 vS2 vD2 K S2 :=
  hf.weak fun k hk hp => by
    by_cases hkW : k < W.heap.size
    · exact hp hkW
    · have hs := hb.size
      have hrl := h.c.lt
      refine ⟨by omega, fun hx => ?_⟩
      have := MedW.lt h.m k (.inl hx)
      omega
/-- the box of the reference's medium is stored -/
theorem Both.store (h : Both w0 rb w g M N X R vL vS vD SS) (hb : Below w.heap.size w W) (hf : RmF (Pz rb X) W vL2 vS2 vD2 K S2) :
    Both w0 rb (((((W.setCell ⟨rb, 0, none⟩ (.int .i64 K.kind)).setCell ⟨rb, 1, none⟩ (.int .i64 K.endu)).setCell ⟨rb, 2, none⟩ vL2).setCell ⟨rb, 3, none⟩ vS2).setCell ⟨rb, 4, none⟩ vD2) g M K X R vL2 vS2 vD2 S2 := by
  obtain ⟨L, hm⟩ := h.m.below hb
  have hk5 := heap5 W rb 0 1 2 3 4 (.int .i64 K.kind) (.int .i64 K.endu) vL2 vS2 vD2
  refine ⟨⟨L, hm.keep (by simp) fun k hk => hk5 k (h.x k hk).2⟩, below5 (h.b.trans (hb.mono h.b.size)) h.r 0 1 2 3 4 _ _ _ _ _, h.x, hf.step ⟨by simp, fun k _ hp => hk5 k hp.1⟩ fun _ _ h => h, ?_, h.r⟩
  exact (((((h.c.call hb).set 0 (.int .i64 K.kind)).set 1 (.int .i64 K.endu)).set 2 vL2).set 3 vS2).set 4 vD2
theorem Both.agree (h : Both w0 rb w g M N X R vL vS vD SS) (u0 u1 u2 u3 u4 : Value) (W : World) : Agree (Pz rb X) W (((((W.setCell ⟨rb, 0, none⟩ u0).setCell ⟨rb, 1, none⟩ u1).setCell ⟨rb, 2, none⟩ u2).setCell ⟨rb, 3, none⟩ u3).setCell ⟨rb, 4, none⟩ u4) :=
  ⟨by simp, fun k _ hp => heap5 W rb 0 1 2 3 4 u0 u1 u2 u3 u4 k hp.1⟩
end
section
variable {P : Program} {Q : Exit → Act → World → Prop}
theorem stepS_callx {R : World → World → Prop} {C : Nat → World → Prop} {V : Nat → Value → World → Prop} {i r : Nat} {o : Oper} {a : Act} {w : World} (h : ∀ K : Act → World → Prop, (∀ v w', R w w' → C r w' → V i (kept o.dst v) w' → K (a.put o.dst v) w') → o.wp P a w K Q) :
    o.wp P a w (fun a' w' => ∃ v, a' = a.put o.dst v ∧ R w w' ∧ C r w' ∧ V i (kept o.dst v) w') Q := h _ fun v w' h1 h2 h3 => ⟨v, rfl, h1, h2, h3⟩
end
end Go.Proofs.Ytpncjadhpnapnaa.D12
/- Chapter 12: MediumCalls. -/
namespace Go.Proofs.Ytpncjadhpnapnaa.D12
open Go.RowKit Go.Maps C9
open D13 (RdI ixI is)
set_option linter.unusedVariables false

theorem act12y {w : World} {g : Nat} {M : Med} {X R : Nat → Prop} {N : Nat} (h : MedW w g M X R) (ho : M.Ok N) (hN : N ≤ 1000000) (x : AV) {w0 : World} (hx : CameAV w0 x) (h0 : Below w0.heap.size w0 w) (hX : ∀ b, X b → w0.heap.size ≤ b) (hs : smallA x.a = true) :
    Calls Try.prog 23 #[.pointer (some ⟨g, 0, none⟩), .agg #[.int .i64 x.a.kind, .int .i64 x.a.at_, .int .i64 x.a.byte, .bool x.a.short, x.vs, .int .i64 x.a.dam.lba, x.vE, x.vC]] w (WrP (M.act x.a) g X R w) := act12 h ho hN x hx h0 hX hs
theorem acts_snoc3 (M : Med) (l : List AC) (k : Nat) (a : AC) (h : l.take (k + 1) = l.take k ++ [a]) : M.acts (l.take (k + 1)) = ((M.acts (l.take k)).act a).2 := by rw [h, Med.acts_snoc]
def recC (w5 w : World) (rb g : Nat) (A NN : Med) (X5 R5 : Nat → Prop) (r : Nat) (W : World) : Prop := if r ≤ 2 then Below w5.heap.size w5 W else ∃ vL vS vD SS, Both w rb W g A NN X5 R5 vL vS vD SS
theorem recC_lo {w5 w W : World} {rb g r : Nat} {A NN : Med} {X5 R5 : Nat → Prop} (h : recC w5 w rb g A NN X5 R5 r W) (hr : r ≤ 2) : Below w5.heap.size w5 W := by unfold recC at h; rwa [if_pos hr] at h
theorem recC_mk {w5 w W : World} {rb g r : Nat} {A NN : Med} {X5 R5 : Nat → Prop} (hr : r ≤ 2) (h : Below w5.heap.size w5 W) : recC w5 w rb g A NN X5 R5 r W := by unfold recC; rwa [if_pos hr]
theorem recC_hi {w5 w W : World} {rb g r : Nat} {A NN : Med} {X5 R5 : Nat → Prop} (hr : 2 < r) (h : ∃ vL vS vD SS, Both w rb W g A NN X5 R5 vL vS vD SS) : recC w5 w rb g A NN X5 R5 r W := by unfold recC; rwa [if_neg (by omega)]
def mcV (w5 w : World) (rb ab g : Nat) (N A NN : Med) (X5 R5 : Nat → Prop) (aL aS aD sa aE aC : Option Addr) (cL cS cD sc cE cC : Nat) (xa : AC) (zc : Int) (i : Nat) (v : Value) (W : World) : Prop := match i with
  | 0 => v = .agg #[.int .i64 N.kind, .int .i64 N.endu, .slice aL N.n cL, .slice aS N.scr.length cS, .slice aD N.n cD]
  | 1 => v = .pointer (some ⟨ab, 1, none⟩)
  | 2 => v = .int .i64 xa.at_
  | 3 => v = .agg #[.int .i64 xa.kind, .int .i64 xa.at_, .int .i64 xa.byte, .bool xa.short, .slice sa xa.scr.length sc, .int .i64 xa.dam.lba, .slice aE xa.dam.er.length cE, .slice aC xa.dam.ch.length cC]
  | 4 => v = .string (str (rawR xa.byte xa.short))
  | 5 => (∃ vL vS vD SS, v = .tuple #[rmv NN vL vS vD, .int .i64 zc] ∧ RmF (Pz rb X5) W vL vS vD NN SS)
  | 6 => (∃ vL vS vD SS, v = .tuple #[rmv NN vL vS vD, .int .i64 zc] ∧ RmF (Pz rb X5) W vL vS vD NN SS)
  | 7 => (∃ vL vS vD SS, v = rmv NN vL vS vD ∧ RmF (Pz rb X5) W vL vS vD NN SS)
  | 8 => v = .int .i64 zc
  | 10 => v = .int .i64 zc
  | _ => True
def mcVE : Nat → Option Nat
  | 4 => some 0
  | 5 => some 1
  | 9 => some 2
  | _ => none
theorem mcV_keep (w5 w : World) (rb ab g : Nat) (N A NN : Med) (X5 R5 : Nat → Prop) (aL aS aD sa aE aC : Option Addr) (cL cS cD sc cE cC : Nat) (xa : AC) (zc : Int) (i r : Nat) (v : Value) (W W' : World) (hk : ∀ k, mcVE i = some k → k < r) (hR : (fun _ W W' => Agree (Pz rb X5) W W') r W W') (h : mcV w5 w rb ab g N A NN X5 R5 aL aS aD sa aE aC cL cS cD sc cE cC xa zc i v W) : mcV w5 w rb ab g N A NN X5 R5 aL aS aD sa aE aC cL cS cD sc cE cC xa zc i v W' := by
  by_cases h5 : i = 5
  · subst h5
    obtain ⟨vL, vS, vD, SS, h1, h2⟩ := h
    exact ⟨vL, vS, vD, SS, h1, h2.step hR fun _ _ h => h⟩
  by_cases h6 : i = 6
  · subst h6
    obtain ⟨vL, vS, vD, SS, h1, h2⟩ := h
    exact ⟨vL, vS, vD, SS, h1, h2.step hR fun _ _ h => h⟩
  by_cases h7 : i = 7
  · subst h7
    obtain ⟨vL, vS, vD, SS, h1, h2⟩ := h
    exact ⟨vL, vS, vD, SS, h1, h2.step hR fun _ _ h => h⟩
  unfold mcV at h ⊢
  split at h <;> first | exact h | exact absurd rfl h5 | exact absurd rfl h6 | exact absurd rfl h7
set_option maxRecDepth 100000 in
set_option maxHeartbeats 8000000 in
theorem calls_law (w : World) (kd : Int) (hkd : (Lit.int .i64 kd).wf = true) (sec : Int) (hsec : (Lit.int .i64 sec).wf = true) (en : Int) (hen : (Lit.int .i64 en).wf = true) (v : Value) (l : List AV) (h1 : CameActs w v l) :
    Calls Try.prog 6 #[.int .i64 kd, .int .i64 sec, .int .i64 en, v] w fun e w' => e = .returned (.bool true) ∧ Below w.heap.size w w' := by
  obtain ⟨al, cl, rfl, _⟩ := RdD.form h1.1
  have HL := Lib.hid h1
  have hl63 := h1.2.1
  clear h1
  have HAW := Lib.hid (awake12 w)
  have HFL := Lib.hid (fun W (hW : Below w.heap.size w W) => few12 (HL.out.keep hW))
  have hz := zeroRM
  go_enter Try.func6, Try.ntmps6
  go_wp2_with fail
  refine HAW.out.mono ?_
  rintro e w1 ⟨rfl, hb1⟩
  have HB1 := Lib.hid hb1
  clear hb1
  go_wp2_with fail
  refine (HFL.out _ HB1.out).mono ?_
  rintro e w' ⟨rfl, rfl⟩
  cases hfl : fewR l with
  | false =>
    clear hfl
    go_wp2_with fail
    go_ret
    exact ⟨rfl, HB1.out⟩
  | true =>
  obtain ⟨hs1, hl40⟩ := (fewR_iff l).1 hfl
  have lS := Lib.hid hs1
  clear hs1 hfl HFL
  by_cases hbig : 6 < sec ∧ sec ≤ 4096
  · have q0 : decide (6 < sec) = true := decide_eq_true hbig.1
    have q1 : decide (sec ≤ 4096) = true := decide_eq_true hbig.2
    clear hbig
    go_wp2_with fail
    go_ret
    exact ⟨rfl, HB1.out⟩
  have HG : Hid ((6 < sec → False) ∨ (sec ≤ 4096 → False)) := Lib.hid (by
    by_cases h6 : 6 < sec
    · exact .inr fun h => hbig ⟨h6, h⟩
    · exact .inl h6)
  by_cases hnok : ¬ newOk kd sec en
  · have HNB := Lib.hid (fun W => new12_bad kd sec en hnok W)
    have HRB := Lib.hid (fun W => rnew12_bad kd sec en hnok W)
    clear hnok hbig
    rcases HG.out with hg | hg
    all_goals
      first
        | have q0 : decide (6 < sec) = false := decide_eq_false hg
        | (have q0 : decide (6 < sec) = true := decide_eq_true (by have hg2 : ¬ sec ≤ 4096 := hg; omega)
           have q1 : decide (sec ≤ 4096) = false := decide_eq_false hg)
      clear hg HG
      go_wp2_with fail
      refine (HNB.out _).mono ?_
      rintro e w' ⟨rfl, rfl⟩
      go_wp2_with fail
      refine (HRB.out _).mono ?_
      rintro e w3 ⟨rfl, hb3⟩
      have HA3 := Lib.hid ((HB1.out.trans (hb3.mono HB1.out.size)).alloc (by have := HB1.out.size; have := hb3.size; omega) (.cells #[.int .i64 0, .int .i64 0, .slice none 0 0, .slice none 0 0, .slice none 0 0] 59))
      clear hb3
      go_wp2_with fail
      go_ret
      exact ⟨rfl, HA3.out⟩
  have hok : newOk kd sec en := Classical.byContradiction hnok
  clear hnok
  have hsn : sec ≤ 6 := by
    obtain ⟨_, ⟨_, h3⟩, _⟩ := hok
    rcases HG.out with h | h
    · omega
    · exact absurd h3 h
  have q0 : decide (6 < sec) = false := decide_eq_false (by omega)
  clear HG hbig
  obtain ⟨n, rfl⟩ : ∃ n : Nat, sec = n := ⟨sec.toNat, by have := hok.2.1; omega⟩
  have HNEW := Lib.hid (fun W => new12 kd (n : Nat) en hok W)
  obtain ⟨hk2, hn2, he1, he2⟩ := hok
  have HREW := Lib.hid (fun W => rnew12 kd en n hk2 (by omega) (by omega) he1 he2 W)
  rw [Int.toNat_natCast] at HNEW
  obtain ⟨M0, hM0⟩ : ∃ M0, M0 = medNew kd.toNat n en.toNat := ⟨_, rfl⟩
  have HOK0 : Hid (M0.Ok 0) := Lib.hid (by rw [hM0]; exact medNew_ok (by omega) (by omega) (by omega))
  unfold NewW at HNEW
  unfold RNewP at HREW
  rw [← hM0] at HNEW HREW
  clear hk2 he1 he2 hsn hn2
  go_wp2_with fail
  refine (HNEW.out _).mono ?_
  rintro e w2 ⟨g, X2, R2, rfl, hm2, hb2, hx2⟩
  go_wp2_with fail
  refine (HREW.out _).mono ?_
  rintro e w3 ⟨vL3, vS3, vD3, SS3, rfl, hf3, hb3⟩
  obtain ⟨⟨aL3, cL3, rfl⟩, ⟨aS3, cS3, rfl⟩, aD3, cD3, rfl⟩ := hf3.here.forms
  obtain ⟨rb, hrb⟩ : ∃ rb, rb = w3.heap.size := ⟨_, rfl⟩
  unfold rmv
  obtain ⟨w4, hw4⟩ : ∃ w4, w4 = w3.alloc (.cells (rmc M0 (.slice aL3 M0.n cL3) (.slice aS3 M0.scr.length cS3) (.slice aD3 M0.n cD3)).toArray 59) := ⟨_, rfl⟩
  have hA4 := (Below.refl w3.heap.size w3).alloc (Nat.le_refl _) (.cells (rmc M0 (.slice aL3 M0.n cL3) (.slice aS3 M0.scr.length cS3) (.slice aD3 M0.n cD3)).toArray 59)
  have hbx4 : Bx w4 rb 59 (rmc M0 (.slice aL3 M0.n cL3) (.slice aS3 M0.scr.length cS3) (.slice aD3 M0.n cD3)) := by rw [hw4, hrb]; exact Bx.new w3 _ _
  rw [← hw4] at hA4
  have HW4 : Hid (w3.alloc (.cells #[.int .i64 M0.kind, .int .i64 M0.endu, .slice aL3 M0.n cL3, .slice aS3 M0.scr.length cS3, .slice aD3 M0.n cD3] 59) = w4) := Lib.hid hw4.symm
  have H4 : Hid (Both w rb w4 g M0 M0 X2 R2 (.slice aL3 M0.n cL3) (.slice aS3 M0.scr.length cS3) (.slice aD3 M0.n cD3) SS3) := Lib.hid (by
    have hlt := MedW.lt hm2
    have h23 : w2.heap.size ≤ w3.heap.size := hb3.size
    have h12 := hb2.size
    have h01 := HB1.out.size
    refine ⟨(hm2.below hb3).below hA4, ?_, fun k hk => ⟨by have := hx2 k hk; omega, by have := hlt k hk; omega⟩, ?_, hbx4, by omega⟩
    · have h02 := HB1.out.trans (hb2.mono h01)
      exact (h02.trans (hb3.mono h02.size)).trans (hA4.mono (by omega))
    · refine hf3.step (Agree.of hA4) fun k hk hp => ⟨by omega, fun hx => ?_⟩
      have := hlt k (.inl hx)
      omega)
  have HRB := Lib.hid hrb
  clear hm2 hb2 hx2 hf3 hb3 hM0 hA4 hbx4 hw4 hrb
  go_upto_region 7 with (fail)
  rw [HW4.out, ← HRB.out]
  go_wp2_with fail
  go_loopw [56] (fun vk wr => ∃ (k : Nat) (X R : Nat → Prop) (vL vS vD : Value) (SS : List RS), k ≤ l.length ∧ vk = .int .i64 (k : Nat) ∧ Both w rb wr g (M0.acts ((l.map AV.a).take k)) (M0.acts ((l.map AV.a).take k)) X R vL vS vD SS) (fun vk _ => l.length - (RowKit.intOf vk).toNat)
  case atStart => exact ⟨0, X2, R2, _, _, _, SS3, by omega, rfl, H4.out⟩
  case round =>
    obtain ⟨k, X, R, vL, vS, vD, SS, hk, rfl, hh⟩ := hrel
    have HOKK : Hid ((M0.acts ((l.map AV.a).take k)).Ok 100) := Lib.hid ((acts_ok HOK0.out _).mono (by rw [List.length_take]; omega))
    by_cases hlt : k < l.length
    · obtain ⟨bl, off, hcell⟩ := RdD.at (HL.out.keep hh.b).1
      obtain ⟨hva, hrange⟩ := hcell k hlt
      have hx := HL.out.2.2 k hlt
      have hsm := lS.out k hlt
      have HTK : Hid ((l.map AV.a).take (k + 1) = (l.map AV.a).take k ++ [(atD avz l k).a]) := Lib.hid (by
        rw [List.take_succ_eq_append_getElem (by rw [List.length_map]; exact hlt)]
        simp [atD, hlt])
      have hix := fun w' => run_idxS Try.underlying54 Try.sizeAct (cap := cl) (n := l.length) (k := k) (b := bl) (off := off) hva hlt _ rfl w'
      generalize atD avz l k = x at *
      have HAS := Lib.hid (acts_snoc3 M0 (l.map AV.a) k x.a HTK.out)
      generalize hMk : M0.acts ((l.map AV.a).take k) = N at *
      clear hMk
      obtain ⟨xa, xvs, xvE, xvC⟩ := x
      have hsc := hx.s
      have hdm := hx.d
      have hka := hx.k
      have haa := hx.a
      have hba := hx.b
      obtain ⟨sa, sc, rfl, _⟩ := RdD.form (show RdSc _ xvs xa.scr from hx.s.1)
      obtain ⟨aE, cE, rfl, _⟩ := RdS.form (show RdS _ 1 xvE xa.dam.er.length _ from hx.d.er.1)
      obtain ⟨aC, cC, rfl, _⟩ := RdD.form (show RdCh _ xvC xa.dam.ch from hx.d.ch.1)
      obtain ⟨⟨aL, cL, rfl⟩, ⟨aS, cS, rfl⟩, aD, cD, rfl⟩ := hh.f.here.forms
      have c0 := hrange 0 _ rfl
      have c1 := hrange 1 _ rfl
      have c2 := hrange 2 _ rfl
      have c3 := hrange 3 _ rfl
      have c4 := hrange 4 _ rfl
      have c5 := hrange 5 _ rfl
      have c6 := hrange 6 _ rfl
      have c7 := hrange 7 _ rfl
      simp only [Nat.add_zero] at c0
      have HX := Lib.hid hx
      obtain ⟨hm1, hm2, hm3⟩ := (smallA_iff _).1 hsm
      have HSCc := Lib.hid hsc
      have HDMc := Lib.hid (hdm.dam hm2 hm3)
      have HSM := Lib.hid hsm
      have HAA := Lib.hid haa
      have HBA := Lib.hid hba
      have HM1 : Hid (xa.scr.length ≤ 8) := Lib.hid hm1
      obtain ⟨ab, hab⟩ : ∃ ab, ab = wr.heap.size := ⟨_, rfl⟩
      obtain ⟨wa, hwa⟩ : ∃ wa, wa = wr.alloc (.cells #[.int .i64 xa.kind, .int .i64 xa.at_, .int .i64 xa.byte, .bool xa.short, .slice sa xa.scr.length sc, .int .i64 xa.dam.lba, .slice aE xa.dam.er.length cE, .slice aC xa.dam.ch.length cC] 46) := ⟨_, rfl⟩
      have hA := (Below.refl wr.heap.size wr).alloc (Nat.le_refl _) (.cells #[.int .i64 xa.kind, .int .i64 xa.at_, .int .i64 xa.byte, .bool xa.short, .slice sa xa.scr.length sc, .int .i64 xa.dam.lba, .slice aE xa.dam.er.length cE, .slice aC xa.dam.ch.length cC] 46)
      have hbxa : Bx wa ab 46 [.int .i64 xa.kind, .int .i64 xa.at_, .int .i64 xa.byte, .bool xa.short, .slice sa xa.scr.length sc, .int .i64 xa.dam.lba, .slice aE xa.dam.er.length cE, .slice aC xa.dam.ch.length cC] := by rw [hwa, hab]; exact Bx.new wr _ _
      rw [← hwa] at hA
      have HHa := Lib.hid (hh.below hA)
      have HXab : Hid (¬ X ab) := Lib.hid fun hx9 => by have := MedW.lt hh.m ab (.inl hx9); omega
      have HWA : Hid (wr.alloc (.cells #[.int .i64 xa.kind, .int .i64 xa.at_, .int .i64 xa.byte, .bool xa.short, .slice sa xa.scr.length sc, .int .i64 xa.dam.lba, .slice aE xa.dam.er.length cE, .slice aC xa.dam.ch.length cC] 46) = wa) := Lib.hid hwa.symm
      have HAB := Lib.hid hab
      have HBXA := Lib.hid hbxa
      have HACT := Lib.hid (act12y HHa.out.m HOKK.out (by omega) ⟨xa, .slice sa xa.scr.length sc, .slice aE xa.dam.er.length cE, .slice aC xa.dam.ch.length cC⟩ HX.out HHa.out.b (fun b hb => (HHa.out.x b (.inl hb)).1) HSM.out)
      clear hcell hva hrange hx hsm hA hh hsc hdm hm1 hm2 hm3 hbxa hwa hab hka haa hba
      go_upto_region 14 with (fail)
      rw [HWA.out, ← HAB.out]
      have a0 := HBXA.out.cell (i := 0) rfl
      have a1 := HBXA.out.cell (i := 1) rfl
      have a2 := HBXA.out.cell (i := 2) rfl
      have a3 := HBXA.out.cell (i := 3) rfl
      have a4 := HBXA.out.cell (i := 4) rfl
      have a5 := HBXA.out.cell (i := 5) rfl
      have a6 := HBXA.out.cell (i := 6) rfl
      have a7 := HBXA.out.cell (i := 7) rfl
      clear c0 c1 c2 c3 c4 c5 c6 c7 hix
      go_wp2_with fail
      refine HACT.out.mono ?_
      rintro e w5 hw
      obtain ⟨rfl, hkeep5, X5, R5, h5⟩ := HHa.out.act hw
      have HBX5 : Hid (Bx w5 ab 46 [.int .i64 xa.kind, .int .i64 xa.at_, .int .i64 xa.byte, .bool xa.short, .slice sa xa.scr.length sc, .int .i64 xa.dam.lba, .slice aE xa.dam.er.length cE, .slice aC xa.dam.ch.length cC]) := Lib.hid ((hkeep5 ab HBXA.out.lt HXab.out).trans HBXA.out)
      have H5 := Lib.hid h5
      clear hw h5 hkeep5 a0 a1 a2 a3 a4 a5 a6 a7
      have a0 := HBX5.out.cell (i := 0) rfl
      have a1 := HBX5.out.cell (i := 1) rfl
      have a2 := HBX5.out.cell (i := 2) rfl
      have a3 := HBX5.out.cell (i := 3) rfl
      have a4 := HBX5.out.cell (i := 4) rfl
      have a5 := HBX5.out.cell (i := 5) rfl
      have a6 := HBX5.out.cell (i := 6) rfl
      have a7 := HBX5.out.cell (i := 7) rfl
      have r0 := H5.out.c.cell (i := 0) rfl
      have r1 := H5.out.c.cell (i := 1) rfl
      have r2 := H5.out.c.cell (i := 2) rfl
      have r3 := H5.out.c.cell (i := 3) rfl
      have r4 := H5.out.c.cell (i := 4) rfl
      have HOKN := Lib.hid HOKK.out
      have HCN : Hid (∀ i, i < N.n → (N.sec i).cnt ≤ 100000000) := Lib.hid fun i hi => by have := (HOKK.out.sec i hi).cnt; omega
      by_cases hk0 : xa.kind = 0
      · have e0 : (xa.kind == 0) = true := beq_iff_eq.2 hk0
        have hkz := hk0
        clear hk0
        have hZ : N.act xa = N.record xa.at_ (rawR xa.byte xa.short) := by unfold Med.act; rw [if_pos hkz]
        rw [hZ] at H5
        rw [hZ]
        have HREC := Lib.hid (fun W (hW : Below w5.heap.size w5 W) => rrecord12 (H5.out.below hW).f HOKN.out.n.2 HOKN.out.scr HCN.out xa.at_ HAA.out (rawR xa.byte xa.short) (by rw [rawR_length]; unfold rawN; split <;> omega))
        unfold rmv at HREC
        unfold RmP at HREC
        have HZA : Hid ((N.act xa).2 = (N.record xa.at_ (rawR xa.byte xa.short)).2) := Lib.hid (by rw [hZ])
        generalize N.record xa.at_ (rawR xa.byte xa.short) = Z at *
        obtain ⟨zc, NN⟩ := Z
        simp only at H5 HREC HZA
        clear hZ hkz
        go_upto_region 18 with (fail)
        refine wp_region_seq (by kernel_rfl) (fun _ W W' => Agree (Pz rb X5) W W') (recC w5 w rb g NN NN X5 R5) (mcV w5 w rb ab g N NN NN X5 R5 aL aS aD sa aE aC cL cS cD sc cE cC xa zc) (fun _ => false) mcVE 3 (by kernel_rfl) (by kernel_rfl) (.inl (by kernel_rfl)) (mcV_keep w5 w rb ab g N NN NN X5 R5 aL aS aD sa aE aC cL cS cD sc cE cC xa zc) (recC_mk (by omega) (Below.refl _ _).drew) ⟨?_, ?_, ?_, ?_, ?_, ?_, ?_, ?_, ?_, ?_, ?_, trivial⟩ ?_
        · intro r a W hc hsz hold hdep hnot hlo hhi hrk
          have o11 : a.tmps.getD 11 undef = .pointer (some ⟨rb, 0, none⟩) := hold 11 (by kernel_rfl)
          have hr2 := hhi 9 2 rfl (by kernel_rfl)
          have hb : Below w5.heap.size w5 W := recC_lo hc (by omega)
          have q0 := (H5.out.c.call hb).cell (i := 0) rfl
          have q1 := (H5.out.c.call hb).cell (i := 1) rfl
          have q2 := (H5.out.c.call hb).cell (i := 2) rfl
          have q3 := (H5.out.c.call hb).cell (i := 3) rfl
          have q4 := (H5.out.c.call hb).cell (i := 4) rfl
          clear hsz hold hdep hnot hlo hhi hrk
          refine stepR_do rfl (wanted_none rfl) ?_
          refine stepS_val (v := .agg #[.int .i64 N.kind, .int .i64 N.endu, .slice aL N.n cL, .slice aS N.scr.length cS, .slice aD N.n cD]) (Agree.refl _ _) hc rfl fun K hK => ?_
          go_simp
          exact hK
        · intro r a W hc hsz hold hdep hnot hlo hhi hrk
          have o14 : a.tmps.getD 14 undef = .pointer (some ⟨ab, 0, none⟩) := hold 14 (by kernel_rfl)
          clear hsz hold hdep hnot hlo hhi hrk
          refine stepR_do rfl (wanted_none rfl) ?_
          refine stepS_val (v := .pointer (some ⟨ab, 1, none⟩)) (Agree.refl _ _) hc rfl fun K hK => ?_
          go_simp
          exact hK
        · intro r a W hc hsz hold hdep hnot hlo hhi hrk
          have d1 : a.tmps.getD 76 undef = .pointer (some ⟨ab, 1, none⟩) := hdep 1 (by kernel_rfl) rfl _ rfl
          have hr2 := hhi 9 2 rfl (by kernel_rfl)
          have hb : Below w5.heap.size w5 W := recC_lo hc (by omega)
          have q0 := (HBX5.out.call hb).cell (i := 0) rfl
          have q1 := (HBX5.out.call hb).cell (i := 1) rfl
          have q2 := (HBX5.out.call hb).cell (i := 2) rfl
          have q3 := (HBX5.out.call hb).cell (i := 3) rfl
          have q4 := (HBX5.out.call hb).cell (i := 4) rfl
          have q5 := (HBX5.out.call hb).cell (i := 5) rfl
          have q6 := (HBX5.out.call hb).cell (i := 6) rfl
          have q7 := (HBX5.out.call hb).cell (i := 7) rfl
          clear hsz hold hdep hnot hlo hhi hrk
          refine stepR_do rfl (wanted_none rfl) ?_
          refine stepS_val (v := .int .i64 xa.at_) (Agree.refl _ _) hc rfl fun K hK => ?_
          go_simp
          exact hK
        · intro r a W hc hsz hold hdep hnot hlo hhi hrk
          have o14 : a.tmps.getD 14 undef = .pointer (some ⟨ab, 0, none⟩) := hold 14 (by kernel_rfl)
          have hr2 := hhi 9 2 rfl (by kernel_rfl)
          have hb : Below w5.heap.size w5 W := recC_lo hc (by omega)
          have q0 := (HBX5.out.call hb).cell (i := 0) rfl
          have q1 := (HBX5.out.call hb).cell (i := 1) rfl
          have q2 := (HBX5.out.call hb).cell (i := 2) rfl
          have q3 := (HBX5.out.call hb).cell (i := 3) rfl
          have q4 := (HBX5.out.call hb).cell (i := 4) rfl
          have q5 := (HBX5.out.call hb).cell (i := 5) rfl
          have q6 := (HBX5.out.call hb).cell (i := 6) rfl
          have q7 := (HBX5.out.call hb).cell (i := 7) rfl
          clear hsz hold hdep hnot hlo hhi hrk
          refine stepR_do rfl (wanted_none rfl) ?_
          refine stepS_val (v := .agg #[.int .i64 xa.kind, .int .i64 xa.at_, .int .i64 xa.byte, .bool xa.short, .slice sa xa.scr.length sc, .int .i64 xa.dam.lba, .slice aE xa.dam.er.length cE, .slice aC xa.dam.ch.length cC]) (Agree.refl _ _) hc rfl fun K hK => ?_
          go_simp
          exact hK
        · intro r a W hc hsz hold hdep hnot hlo hhi hrk
          have hr := hrk 0 rfl
          subst hr
          have d3 : a.tmps.getD 78 undef = .agg #[.int .i64 xa.kind, .int .i64 xa.at_, .int .i64 xa.byte, .bool xa.short, .slice sa xa.scr.length sc, .int .i64 xa.dam.lba, .slice aE xa.dam.er.length cE, .slice aC xa.dam.ch.length cC] := hdep 3 (by kernel_rfl) rfl _ rfl
          have e3 : a.tmps[78]?.getD undef = .agg #[.int .i64 xa.kind, .int .i64 xa.at_, .int .i64 xa.byte, .bool xa.short, .slice sa xa.scr.length sc, .int .i64 xa.dam.lba, .slice aE xa.dam.er.length cE, .slice aC xa.dam.ch.length cC] := by rw [← Array.getD_eq_getD_getElem?]; exact d3
          clear hsz hold hdep hnot hlo hhi hrk
          refine stepR_do rfl (wanted_none rfl) ?_
          have hb : Below w5.heap.size w5 W := recC_lo hc (by omega)
          have HCC := Lib.hid (raw12 xa.kind xa.at_ xa.byte xa.short (.slice sa xa.scr.length sc) (.slice aE xa.dam.er.length cE) (.slice aC xa.dam.ch.length cC) xa.dam HBA.out W)
          unfold actv at HCC
          refine stepS_call2 (v := .string (str (rawR xa.byte xa.short))) fun K hK => ?_
          clear hc
          go_simp
          refine HCC.out.mono ?_
          rintro e w' ⟨rfl, hb'⟩
          exact hK _ (Agree.of hb') (show recC w5 w rb g NN NN X5 R5 1 _ from recC_mk (by omega) (hb.trans (hb'.mono hb.size))) rfl
        · intro r a W hc hsz hold hdep hnot hlo hhi hrk
          have hr := hrk 1 rfl
          subst hr
          have d0 : a.tmps.getD 75 undef = .agg #[.int .i64 N.kind, .int .i64 N.endu, .slice aL N.n cL, .slice aS N.scr.length cS, .slice aD N.n cD] := hdep 0 (by kernel_rfl) rfl _ rfl
          have e0 : a.tmps[75]?.getD undef = .agg #[.int .i64 N.kind, .int .i64 N.endu, .slice aL N.n cL, .slice aS N.scr.length cS, .slice aD N.n cD] := by rw [← Array.getD_eq_getD_getElem?]; exact d0
          have d2 : a.tmps.getD 77 undef = .int .i64 xa.at_ := hdep 2 (by kernel_rfl) rfl _ rfl
          have e2 : a.tmps[77]?.getD undef = .int .i64 xa.at_ := by rw [← Array.getD_eq_getD_getElem?]; exact d2
          have d4 : a.tmps.getD 79 undef = .string (str (rawR xa.byte xa.short)) := hdep 4 (by kernel_rfl) rfl _ rfl
          have e4 : a.tmps[79]?.getD undef = .string (str (rawR xa.byte xa.short)) := by rw [← Array.getD_eq_getD_getElem?]; exact d4
          clear hsz hold hdep hnot hlo hhi hrk
          refine stepR_do rfl (wanted_none rfl) ?_
          have hb : Below w5.heap.size w5 W := recC_lo hc (by omega)
          have HCC := Lib.hid (HREC.out W hb)
          refine stepS_callx fun K hK => ?_
          clear hc
          go_simp
          refine HCC.out.mono ?_
          rintro e w' ⟨vL6, vS6, vD6, SS6, rfl, hf6, hb6⟩
          exact hK _ w' (Agree.of hb6) (show recC w5 w rb g NN NN X5 R5 2 _ from recC_mk (by omega) (hb.trans (hb6.mono hb.size))) ⟨vL6, vS6, vD6, SS6, rfl, H5.out.ref hb hb6 hf6⟩
        · intro r a W hc hsz hold hdep hnot hlo hhi hrk
          have x5 := hdep 5 (by kernel_rfl) rfl _ rfl
          clear hsz hold hdep hnot hlo hhi hrk
          refine stepR_do rfl (wanted_none rfl) ?_
          obtain ⟨vL6, vS6, vD6, SS6, d59, hf⟩ : ∃ vL vS vD SS, a.tmps.getD 80 undef = .tuple #[rmv NN vL vS vD, .int .i64 zc] ∧ RmF (Pz rb X5) W vL vS vD NN SS := x5
          have e59 : a.tmps[80]?.getD undef = .tuple #[rmv NN vL6 vS6 vD6, .int .i64 zc] := by rw [← Array.getD_eq_getD_getElem?]; exact d59
          refine stepS_val (v := .tuple #[rmv NN vL6 vS6 vD6, .int .i64 zc]) (Agree.refl _ _) hc ⟨vL6, vS6, vD6, SS6, rfl, hf⟩ fun K hK => ?_
          clear hf
          go_simp
          exact hK
        · intro r a W hc hsz hold hdep hnot hlo hhi hrk
          have x6 := hdep 6 (by kernel_rfl) rfl _ rfl
          clear hsz hold hdep hnot hlo hhi hrk
          refine stepR_do rfl (wanted_none rfl) ?_
          obtain ⟨vL6, vS6, vD6, SS6, d69, hf⟩ : ∃ vL vS vD SS, a.tmps.getD 74 undef = .tuple #[rmv NN vL vS vD, .int .i64 zc] ∧ RmF (Pz rb X5) W vL vS vD NN SS := x6
          have e69 : a.tmps[74]?.getD undef = .tuple #[rmv NN vL6 vS6 vD6, .int .i64 zc] := by rw [← Array.getD_eq_getD_getElem?]; exact d69
          refine stepS_val (v := rmv NN vL6 vS6 vD6) (Agree.refl _ _) hc ⟨vL6, vS6, vD6, SS6, rfl, hf⟩ fun K hK => ?_
          clear hf
          go_simp
          exact hK
        · intro r a W hc hsz hold hdep hnot hlo hhi hrk
          have x6 := hdep 6 (by kernel_rfl) rfl _ rfl
          clear hsz hold hdep hnot hlo hhi hrk
          refine stepR_do rfl (wanted_none rfl) ?_
          obtain ⟨vL6, vS6, vD6, SS6, d69, hf⟩ : ∃ vL vS vD SS, a.tmps.getD 74 undef = .tuple #[rmv NN vL vS vD, .int .i64 zc] ∧ RmF (Pz rb X5) W vL vS vD NN SS := x6
          have e69 : a.tmps[74]?.getD undef = .tuple #[rmv NN vL6 vS6 vD6, .int .i64 zc] := by rw [← Array.getD_eq_getD_getElem?]; exact d69
          refine stepS_val (v := .int .i64 zc) (Agree.refl _ _) hc rfl fun K hK => ?_
          clear hf
          go_simp
          exact hK
        · intro r a W hc hsz hold hdep hnot hlo hhi hrk
          have hr := hrk 2 rfl
          subst hr
          have o11 : a.tmps.getD 11 undef = .pointer (some ⟨rb, 0, none⟩) := hold 11 (by kernel_rfl)
          have x7 := hdep 7 (by kernel_rfl) rfl _ rfl
          clear hsz hold hdep hnot hlo hhi hrk
          refine stepR_do rfl (wanted_none rfl) ?_
          have hb : Below w5.heap.size w5 W := recC_lo hc (by omega)
          obtain ⟨vL6, vS6, vD6, SS6, d79, hf⟩ : ∃ vL vS vD SS, a.tmps.getD 81 undef = rmv NN vL vS vD ∧ RmF (Pz rb X5) W vL vS vD NN SS := x7
          obtain ⟨⟨aL6, cL6, rfl⟩, ⟨aS6, cS6, rfl⟩, aD6, cD6, rfl⟩ := hf.here.forms
          unfold rmv at d79
          have e79 : a.tmps[81]?.getD undef = .agg #[.int .i64 NN.kind, .int .i64 NN.endu, .slice aL6 NN.n cL6, .slice aS6 NN.scr.length cS6, .slice aD6 NN.n cD6] := by rw [← Array.getD_eq_getD_getElem?]; exact d79
          have q0 := (H5.out.c.call hb).cell (i := 0) rfl
          have q1 := (H5.out.c.call hb).cell (i := 1) rfl
          have q2 := (H5.out.c.call hb).cell (i := 2) rfl
          have q3 := (H5.out.c.call hb).cell (i := 3) rfl
          have q4 := (H5.out.c.call hb).cell (i := 4) rfl
          have qf := (H5.out.c.call hb).free
          have HST := Lib.hid (H5.out.store hb hf)
          have HAG := Lib.hid (H5.out.agree (.int .i64 NN.kind) (.int .i64 NN.endu) (.slice aL6 NN.n cL6) (.slice aS6 NN.scr.length cS6) (.slice aD6 NN.n cD6) W)
          refine stepS_new (v := undef) (w' := (((((W.setCell ⟨rb, 0, none⟩ (.int .i64 NN.kind)).setCell ⟨rb, 1, none⟩ (.int .i64 NN.endu)).setCell ⟨rb, 2, none⟩ (.slice aL6 NN.n cL6)).setCell ⟨rb, 3, none⟩ (.slice aS6 NN.scr.length cS6)).setCell ⟨rb, 4, none⟩ (.slice aD6 NN.n cD6))) HAG.out (show recC w5 w rb g NN NN X5 R5 3 _ from recC_hi (by omega) ⟨_, _, _, _, HST.out⟩) trivial fun K hK => ?_
          clear hc hf
          go_simp
          exact hK
        · intro r a W hc hsz hold hdep hnot hlo hhi hrk
          have d8 : a.tmps.getD 82 undef = .int .i64 zc := hdep 8 (by kernel_rfl) rfl _ rfl
          clear hsz hold hdep hnot hlo hhi hrk
          refine stepR_do rfl (wanted_none rfl) ?_
          refine stepS_val (v := .int .i64 zc) (Agree.refl _ _) hc rfl fun K hK => ?_
          go_simp
          exact hK
        · intro a W hC hd hsz hold hval
          have d0 : a.tmps.getD 0 undef = .int .i64 kd := hold 0 (by kernel_rfl)
          have d1 : a.tmps.getD 1 undef = .int .i64 ((n : Nat) : Int) := hold 1 (by kernel_rfl)
          have d2 : a.tmps.getD 2 undef = .int .i64 en := hold 2 (by kernel_rfl)
          have d3 : a.tmps.getD 3 undef = .slice al l.length cl := hold 3 (by kernel_rfl)
          have d4 : a.tmps.getD 4 undef = undef := hold 4 (by kernel_rfl)
          have d5 : a.tmps.getD 5 undef = undef := hold 5 (by kernel_rfl)
          have d6 : a.tmps.getD 6 undef = undef := hold 6 (by kernel_rfl)
          have d7 : a.tmps.getD 7 undef = undef := hold 7 (by kernel_rfl)
          have d9 : a.tmps.getD 9 undef = .pointer (some ⟨g, 0, none⟩) := hold 9 (by kernel_rfl)
          have d11 : a.tmps.getD 11 undef = .pointer (some ⟨rb, 0, none⟩) := hold 11 (by kernel_rfl)
          have d13 : a.tmps.getD 13 undef = undef := hold 13 (by kernel_rfl)
          have d15 : a.tmps.getD 15 undef = .bool true := hold 15 (by kernel_rfl)
          have d16 : a.tmps.getD 16 undef = .bool false := hold 16 (by kernel_rfl)
          have d17 : a.tmps.getD 17 undef = .slice al l.length cl := hold 17 (by kernel_rfl)
          have d18 : a.tmps.getD 18 undef = .bool true := hold 18 (by kernel_rfl)
          have d19 : a.tmps.getD 19 undef = .bool false := hold 19 (by kernel_rfl)
          have d20 : a.tmps.getD 20 undef = .bool false := hold 20 (by kernel_rfl)
          have d21 : a.tmps.getD 21 undef = .int .i64 ((n : Nat) : Int) := hold 21 (by kernel_rfl)
          have d22 : a.tmps.getD 22 undef = .bool false := hold 22 (by kernel_rfl)
          have d23 : a.tmps.getD 23 undef = .bool false := hold 23 (by kernel_rfl)
          have d24 : a.tmps.getD 24 undef = undef := hold 24 (by kernel_rfl)
          have d25 : a.tmps.getD 25 undef = undef := hold 25 (by kernel_rfl)
          have d26 : a.tmps.getD 26 undef = .bool false := hold 26 (by kernel_rfl)
          have d27 : a.tmps.getD 27 undef = .bool false := hold 27 (by kernel_rfl)
          have d28 : a.tmps.getD 28 undef = .tuple #[.pointer (some ⟨g, 0, none⟩), .int .i64 0] := hold 28 (by kernel_rfl)
          have d29 : a.tmps.getD 29 undef = .int .i64 kd := hold 29 (by kernel_rfl)
          have d30 : a.tmps.getD 30 undef = .int .i64 ((n : Nat) : Int) := hold 30 (by kernel_rfl)
          have d31 : a.tmps.getD 31 undef = .int .i64 en := hold 31 (by kernel_rfl)
          have d32 : a.tmps.getD 32 undef = .tuple #[.pointer (some ⟨g, 0, none⟩), .int .i64 0] := hold 32 (by kernel_rfl)
          have d33 : a.tmps.getD 33 undef = .pointer (some ⟨g, 0, none⟩) := hold 33 (by kernel_rfl)
          have d34 : a.tmps.getD 34 undef = .int .i64 0 := hold 34 (by kernel_rfl)
          have d35 : a.tmps.getD 35 undef = .tuple #[.agg #[.int .i64 ((M0.kind : Nat) : Int), .int .i64 ((M0.endu : Nat) : Int), .slice aL3 M0.n cL3, .slice aS3 M0.scr.length cS3, .slice aD3 M0.n cD3], .int .i64 0] := hold 35 (by kernel_rfl)
          have d36 : a.tmps.getD 36 undef = .int .i64 kd := hold 36 (by kernel_rfl)
          have d37 : a.tmps.getD 37 undef = .int .i64 ((n : Nat) : Int) := hold 37 (by kernel_rfl)
          have d38 : a.tmps.getD 38 undef = .int .i64 en := hold 38 (by kernel_rfl)
          have d39 : a.tmps.getD 39 undef = .tuple #[.agg #[.int .i64 ((M0.kind : Nat) : Int), .int .i64 ((M0.endu : Nat) : Int), .slice aL3 M0.n cL3, .slice aS3 M0.scr.length cS3, .slice aD3 M0.n cD3], .int .i64 0] := hold 39 (by kernel_rfl)
          have d40 : a.tmps.getD 40 undef = .agg #[.int .i64 ((M0.kind : Nat) : Int), .int .i64 ((M0.endu : Nat) : Int), .slice aL3 M0.n cL3, .slice aS3 M0.scr.length cS3, .slice aD3 M0.n cD3] := hold 40 (by kernel_rfl)
          have d41 : a.tmps.getD 41 undef = .int .i64 0 := hold 41 (by kernel_rfl)
          have d42 : a.tmps.getD 42 undef = .int .i64 0 := hold 42 (by kernel_rfl)
          have d43 : a.tmps.getD 43 undef = .int .i64 0 := hold 43 (by kernel_rfl)
          have d44 : a.tmps.getD 44 undef = .bool false := hold 44 (by kernel_rfl)
          have d45 : a.tmps.getD 45 undef = .bool false := hold 45 (by kernel_rfl)
          have d46 : a.tmps.getD 46 undef = .pointer (some ⟨g, 0, none⟩) := hold 46 (by kernel_rfl)
          have d47 : a.tmps.getD 47 undef = .bool false := hold 47 (by kernel_rfl)
          have d48 : a.tmps.getD 48 undef = .int .i64 0 := hold 48 (by kernel_rfl)
          have d49 : a.tmps.getD 49 undef = .bool false := hold 49 (by kernel_rfl)
          have d50 : a.tmps.getD 50 undef = .bool false := hold 50 (by kernel_rfl)
          have d51 : a.tmps.getD 51 undef = .bool false := hold 51 (by kernel_rfl)
          have d52 : a.tmps.getD 52 undef = .pointer (some ⟨g, 0, none⟩) := hold 52 (by kernel_rfl)
          have d53 : a.tmps.getD 53 undef = .bool false := hold 53 (by kernel_rfl)
          have d54 : a.tmps.getD 54 undef = .slice al l.length cl := hold 54 (by kernel_rfl)
          have d55 : a.tmps.getD 55 undef = .int .i64 ((l.length : Nat) : Int) := hold 55 (by kernel_rfl)
          have d56 : a.tmps.getD 56 undef = .int .i64 ((k : Nat) : Int) := hold 56 (by kernel_rfl)
          have d114 : a.tmps.getD 114 undef = undef := hold 114 (by kernel_rfl)
          have d115 : a.tmps.getD 115 undef = undef := hold 115 (by kernel_rfl)
          have d116 : a.tmps.getD 116 undef = undef := hold 116 (by kernel_rfl)
          have d10 : a.tmps.getD 10 undef = .int .i64 zc := hold 10 (by kernel_rfl)
          have d12 : a.tmps.getD 12 undef = .int .i64 zc := hval 10 _ rfl rfl
          clear hold
          obtain ⟨tm, df⟩ := a
          replace hd : df = [] := hd
          replace hsz : tm.size = 117 := hsz
          replace d0 : tm.getD 0 undef = .int .i64 kd := d0
          replace d1 : tm.getD 1 undef = .int .i64 ((n : Nat) : Int) := d1
          replace d2 : tm.getD 2 undef = .int .i64 en := d2
          replace d3 : tm.getD 3 undef = .slice al l.length cl := d3
          replace d4 : tm.getD 4 undef = undef := d4
          replace d5 : tm.getD 5 undef = undef := d5
          replace d6 : tm.getD 6 undef = undef := d6
          replace d7 : tm.getD 7 undef = undef := d7
          replace d9 : tm.getD 9 undef = .pointer (some ⟨g, 0, none⟩) := d9
          replace d11 : tm.getD 11 undef = .pointer (some ⟨rb, 0, none⟩) := d11
          replace d13 : tm.getD 13 undef = undef := d13
          replace d15 : tm.getD 15 undef = .bool true := d15
          replace d16 : tm.getD 16 undef = .bool false := d16
          replace d17 : tm.getD 17 undef = .slice al l.length cl := d17
          replace d18 : tm.getD 18 undef = .bool true := d18
          replace d19 : tm.getD 19 undef = .bool false := d19
          replace d20 : tm.getD 20 undef = .bool false := d20
          replace d21 : tm.getD 21 undef = .int .i64 ((n : Nat) : Int) := d21
          replace d22 : tm.getD 22 undef = .bool false := d22
          replace d23 : tm.getD 23 undef = .bool false := d23
          replace d24 : tm.getD 24 undef = undef := d24
          replace d25 : tm.getD 25 undef = undef := d25
          replace d26 : tm.getD 26 undef = .bool false := d26
          replace d27 : tm.getD 27 undef = .bool false := d27
          replace d28 : tm.getD 28 undef = .tuple #[.pointer (some ⟨g, 0, none⟩), .int .i64 0] := d28
          replace d29 : tm.getD 29 undef = .int .i64 kd := d29
          replace d30 : tm.getD 30 undef = .int .i64 ((n : Nat) : Int) := d30
          replace d31 : tm.getD 31 undef = .int .i64 en := d31
          replace d32 : tm.getD 32 undef = .tuple #[.pointer (some ⟨g, 0, none⟩), .int .i64 0] := d32
          replace d33 : tm.getD 33 undef = .pointer (some ⟨g, 0, none⟩) := d33
          replace d34 : tm.getD 34 undef = .int .i64 0 := d34
          replace d35 : tm.getD 35 undef = .tuple #[.agg #[.int .i64 ((M0.kind : Nat) : Int), .int .i64 ((M0.endu : Nat) : Int), .slice aL3 M0.n cL3, .slice aS3 M0.scr.length cS3, .slice aD3 M0.n cD3], .int .i64 0] := d35
          replace d36 : tm.getD 36 undef = .int .i64 kd := d36
          replace d37 : tm.getD 37 undef = .int .i64 ((n : Nat) : Int) := d37
          replace d38 : tm.getD 38 undef = .int .i64 en := d38
          replace d39 : tm.getD 39 undef = .tuple #[.agg #[.int .i64 ((M0.kind : Nat) : Int), .int .i64 ((M0.endu : Nat) : Int), .slice aL3 M0.n cL3, .slice aS3 M0.scr.length cS3, .slice aD3 M0.n cD3], .int .i64 0] := d39
          replace d40 : tm.getD 40 undef = .agg #[.int .i64 ((M0.kind : Nat) : Int), .int .i64 ((M0.endu : Nat) : Int), .slice aL3 M0.n cL3, .slice aS3 M0.scr.length cS3, .slice aD3 M0.n cD3] := d40
          replace d41 : tm.getD 41 undef = .int .i64 0 := d41
          replace d42 : tm.getD 42 undef = .int .i64 0 := d42
          replace d43 : tm.getD 43 undef = .int .i64 0 := d43
          replace d44 : tm.getD 44 undef = .bool false := d44
          replace d45 : tm.getD 45 undef = .bool false := d45
          replace d46 : tm.getD 46 undef = .pointer (some ⟨g, 0, none⟩) := d46
          replace d47 : tm.getD 47 undef = .bool false := d47
          replace d48 : tm.getD 48 undef = .int .i64 0 := d48
          replace d49 : tm.getD 49 undef = .bool false := d49
          replace d50 : tm.getD 50 undef = .bool false := d50
          replace d51 : tm.getD 51 undef = .bool false := d51
          replace d52 : tm.getD 52 undef = .pointer (some ⟨g, 0, none⟩) := d52
          replace d53 : tm.getD 53 undef = .bool false := d53
          replace d54 : tm.getD 54 undef = .slice al l.length cl := d54
          replace d55 : tm.getD 55 undef = .int .i64 ((l.length : Nat) : Int) := d55
          replace d56 : tm.getD 56 undef = .int .i64 ((k : Nat) : Int) := d56
          replace d114 : tm.getD 114 undef = undef := d114
          replace d115 : tm.getD 115 undef = undef := d115
          replace d116 : tm.getD 116 undef = undef := d116
          replace d10 : tm.getD 10 undef = .int .i64 zc := d10
          replace d12 : tm.getD 12 undef = .int .i64 zc := d12
          subst hd
          have e : tm = List.toArray (tm.getD 0 undef :: tm.getD 1 undef :: tm.getD 2 undef :: tm.getD 3 undef :: tm.getD 4 undef :: tm.getD 5 undef :: tm.getD 6 undef :: tm.getD 7 undef :: tm.getD 8 undef :: tm.getD 9 undef :: tm.getD 10 undef :: tm.getD 11 undef :: tm.getD 12 undef :: tm.getD 13 undef :: tm.getD 14 undef :: tm.getD 15 undef :: tm.getD 16 undef :: tm.getD 17 undef :: tm.getD 18 undef :: tm.getD 19 undef :: tm.getD 20 undef :: tm.getD 21 undef :: tm.getD 22 undef :: tm.getD 23 undef :: tm.getD 24 undef :: tm.getD 25 undef :: tm.getD 26 undef :: tm.getD 27 undef :: tm.getD 28 undef :: tm.getD 29 undef :: tm.getD 30 undef :: tm.getD 31 undef :: tm.getD 32 undef :: tm.getD 33 undef :: tm.getD 34 undef :: tm.getD 35 undef :: tm.getD 36 undef :: tm.getD 37 undef :: tm.getD 38 undef :: tm.getD 39 undef :: tm.getD 40 undef :: tm.getD 41 undef :: tm.getD 42 undef :: tm.getD 43 undef :: tm.getD 44 undef :: tm.getD 45 undef :: tm.getD 46 undef :: tm.getD 47 undef :: tm.getD 48 undef :: tm.getD 49 undef :: tm.getD 50 undef :: tm.getD 51 undef :: tm.getD 52 undef :: tm.getD 53 undef :: tm.getD 54 undef :: tm.getD 55 undef :: tm.getD 56 undef :: tm.getD 57 undef :: tm.getD 58 undef :: tm.getD 59 undef :: tm.getD 60 undef :: tm.getD 61 undef :: tm.getD 62 undef :: tm.getD 63 undef :: tm.getD 64 undef :: tm.getD 65 undef :: tm.getD 66 undef :: tm.getD 67 undef :: tm.getD 68 undef :: tm.getD 69 undef :: tm.getD 70 undef :: tm.getD 71 undef :: tm.getD 72 undef :: tm.getD 73 undef :: tm.getD 74 undef :: tm.getD 75 undef :: tm.getD 76 undef :: tm.getD 77 undef :: tm.getD 78 undef :: tm.getD 79 undef :: tm.getD 80 undef :: tm.getD 81 undef :: tm.getD 82 undef :: tm.getD 83 undef :: tm.getD 84 undef :: tm.getD 85 undef :: tm.getD 86 undef :: tm.getD 87 undef :: tm.getD 88 undef :: tm.getD 89 undef :: tm.getD 90 undef :: tm.getD 91 undef :: tm.getD 92 undef :: tm.getD 93 undef :: tm.getD 94 undef :: tm.getD 95 undef :: tm.getD 96 undef :: tm.getD 97 undef :: tm.getD 98 undef :: tm.getD 99 undef :: tm.getD 100 undef :: tm.getD 101 undef :: tm.getD 102 undef :: tm.getD 103 undef :: tm.getD 104 undef :: tm.getD 105 undef :: tm.getD 106 undef :: tm.getD 107 undef :: tm.getD 108 undef :: tm.getD 109 undef :: tm.getD 110 undef :: tm.getD 111 undef :: tm.getD 112 undef :: tm.getD 113 undef :: tm.getD 114 undef :: tm.getD 115 undef :: tm.getD 116 undef :: []) := arr_eq tm 117 hsz
          rw [d0, d1, d2, d3, d4, d5, d6, d7, d9, d11, d13, d15, d16, d17, d18, d19, d20, d21, d22, d23, d24, d25, d26, d27, d28, d29, d30, d31, d32, d33, d34, d35, d36, d37, d38, d39, d40, d41, d42, d43, d44, d45, d46, d47, d48, d49, d50, d51, d52, d53, d54, d55, d56, d114, d115, d116, d10, d12] at e
          clear d0 d1 d2 d3 d4 d5 d6 d7 d9 d11 d13 d15 d16 d17 d18 d19 d20 d21 d22 d23 d24 d25 d26 d27 d28 d29 d30 d31 d32 d33 d34 d35 d36 d37 d38 d39 d40 d41 d42 d43 d44 d45 d46 d47 d48 d49 d50 d51 d52 d53 d54 d55 d56 d114 d115 d116 d10 d12 hsz
          generalize tm.getD 8 undef = v8 at e
          generalize tm.getD 14 undef = v14 at e
          generalize tm.getD 57 undef = v57 at e
          generalize tm.getD 58 undef = v58 at e
          generalize tm.getD 59 undef = v59 at e
          generalize tm.getD 60 undef = v60 at e
          generalize tm.getD 61 undef = v61 at e
          generalize tm.getD 62 undef = v62 at e
          generalize tm.getD 63 undef = v63 at e
          generalize tm.getD 64 undef = v64 at e
          generalize tm.getD 65 undef = v65 at e
          generalize tm.getD 66 undef = v66 at e
          generalize tm.getD 67 undef = v67 at e
          generalize tm.getD 68 undef = v68 at e
          generalize tm.getD 69 undef = v69 at e
          generalize tm.getD 70 undef = v70 at e
          generalize tm.getD 71 undef = v71 at e
          generalize tm.getD 72 undef = v72 at e
          generalize tm.getD 73 undef = v73 at e
          generalize tm.getD 74 undef = v74 at e
          generalize tm.getD 75 undef = v75 at e
          generalize tm.getD 76 undef = v76 at e
          generalize tm.getD 77 undef = v77 at e
          generalize tm.getD 78 undef = v78 at e
          generalize tm.getD 79 undef = v79 at e
          generalize tm.getD 80 undef = v80 at e
          generalize tm.getD 81 undef = v81 at e
          generalize tm.getD 82 undef = v82 at e
          generalize tm.getD 83 undef = v83 at e
          generalize tm.getD 84 undef = v84 at e
          generalize tm.getD 85 undef = v85 at e
          generalize tm.getD 86 undef = v86 at e
          generalize tm.getD 87 undef = v87 at e
          generalize tm.getD 88 undef = v88 at e
          generalize tm.getD 89 undef = v89 at e
          generalize tm.getD 90 undef = v90 at e
          generalize tm.getD 91 undef = v91 at e
          generalize tm.getD 92 undef = v92 at e
          generalize tm.getD 93 undef = v93 at e
          generalize tm.getD 94 undef = v94 at e
          generalize tm.getD 95 undef = v95 at e
          generalize tm.getD 96 undef = v96 at e
          generalize tm.getD 97 undef = v97 at e
          generalize tm.getD 98 undef = v98 at e
          generalize tm.getD 99 undef = v99 at e
          generalize tm.getD 100 undef = v100 at e
          generalize tm.getD 101 undef = v101 at e
          generalize tm.getD 102 undef = v102 at e
          generalize tm.getD 103 undef = v103 at e
          generalize tm.getD 104 undef = v104 at e
          generalize tm.getD 105 undef = v105 at e
          generalize tm.getD 106 undef = v106 at e
          generalize tm.getD 107 undef = v107 at e
          generalize tm.getD 108 undef = v108 at e
          generalize tm.getD 109 undef = v109 at e
          generalize tm.getD 110 undef = v110 at e
          generalize tm.getD 111 undef = v111 at e
          generalize tm.getD 112 undef = v112 at e
          generalize tm.getD 113 undef = v113 at e
          subst e
          unfold recC at hC
          rw [if_neg (by omega)] at hC
          obtain ⟨vL6, vS6, vD6, SS6, h7⟩ := hC
          have H7 := Lib.hid h7
          clear h7 hval r0 r1 r2 r3 r4 a0 a1 a2 a3 a4 a5 a6 a7
          go_wp2_with fail
          go_roundw
          case rel => exact ⟨k + 1, X5, R5, _, _, _, SS6, by omega, by go_num, by rw [HAS.out, HZA.out]; exact H7.out⟩
          case measure => simp [RowKit.intOf]; omega
      by_cases hk1 : xa.kind = 1
      · have e0 : (xa.kind == 0) = false := beq_eq_false_iff_ne.2 (by omega)
        have e1 : (xa.kind == 1) = true := beq_iff_eq.2 hk1
        have hZ : N.act xa = N.tear xa.at_ := by unfold Med.act; rw [if_neg hk0, if_pos hk1]
        rw [hZ] at H5
        rw [hZ]
        have HCALL := Lib.hid (rtear12 H5.out.f HOKN.out.n.2 HOKN.out.scr HCN.out xa.at_ HAA.out)
        unfold rmv at HCALL
        unfold RmP at HCALL
        have HZA : Hid ((N.act xa).2 = (N.tear xa.at_).2) := Lib.hid (by rw [hZ])
        generalize N.tear xa.at_ = Z at *
        obtain ⟨zc, NN⟩ := Z
        simp only at H5 HCALL HZA
        clear hZ hk0 hk1
        go_wp2_with fail
        refine HCALL.out.mono ?_
        rintro e w6 ⟨vL6, vS6, vD6, SS6, rfl, hf6, hb6⟩
        obtain ⟨⟨aL6, cL6, rfl⟩, ⟨aS6, cS6, rfl⟩, aD6, cD6, rfl⟩ := hf6.here.forms
        have hf7 := H5.out.ref (Below.refl _ _) hb6 hf6
        have H7 := Lib.hid (H5.out.store hb6 hf7)
        have hB6 := H5.out.c.call hb6
        clear hf6 hf7 r0 r1 r2 r3 r4
        have r0 := hB6.cell (i := 0) rfl
        have r1 := hB6.cell (i := 1) rfl
        have r2 := hB6.cell (i := 2) rfl
        have r3 := hB6.cell (i := 3) rfl
        have r4 := hB6.cell (i := 4) rfl
        have rf := hB6.free
        clear hB6 hb6 a0 a1 a2 a3 a4 a5 a6 a7
        unfold rmv
        go_wp2_with fail
        go_roundw
        case rel => exact ⟨k + 1, X5, R5, _, _, _, SS6, by omega, by go_num, by rw [HAS.out, HZA.out]; exact H7.out⟩
        case measure => simp [RowKit.intOf]; omega
      by_cases hk2 : xa.kind = 2
      · have e0 : (xa.kind == 0) = false := beq_eq_false_iff_ne.2 (by omega)
        have e1 : (xa.kind == 1) = false := beq_eq_false_iff_ne.2 (by omega)
        have e2 : (xa.kind == 2) = true := beq_iff_eq.2 hk2
        have hZ : N.act xa = N.erase xa.at_ := by unfold Med.act; rw [if_neg hk0, if_neg hk1, if_pos hk2]
        rw [hZ] at H5
        rw [hZ]
        have HCALL := Lib.hid (rerase12 H5.out.f HOKN.out.n.2 HOKN.out.scr xa.at_ HAA.out)
        unfold rmv at HCALL
        unfold RmP at HCALL
        have HZA : Hid ((N.act xa).2 = (N.erase xa.at_).2) := Lib.hid (by rw [hZ])
        generalize N.erase xa.at_ = Z at *
        obtain ⟨zc, NN⟩ := Z
        simp only at H5 HCALL HZA
        clear hZ hk0 hk1 hk2
        go_wp2_with fail
        refine HCALL.out.mono ?_
        rintro e w6 ⟨vL6, vS6, vD6, SS6, rfl, hf6, hb6⟩
        obtain ⟨⟨aL6, cL6, rfl⟩, ⟨aS6, cS6, rfl⟩, aD6, cD6, rfl⟩ := hf6.here.forms
        have hf7 := H5.out.ref (Below.refl _ _) hb6 hf6
        have H7 := Lib.hid (H5.out.store hb6 hf7)
        have hB6 := H5.out.c.call hb6
        clear hf6 hf7 r0 r1 r2 r3 r4
        have r0 := hB6.cell (i := 0) rfl
        have r1 := hB6.cell (i := 1) rfl
        have r2 := hB6.cell (i := 2) rfl
        have r3 := hB6.cell (i := 3) rfl
        have r4 := hB6.cell (i := 4) rfl
        have rf := hB6.free
        clear hB6 hb6 a0 a1 a2 a3 a4 a5 a6 a7
        unfold rmv
        go_wp2_with fail
        go_roundw
        case rel => exact ⟨k + 1, X5, R5, _, _, _, SS6, by omega, by go_num, by rw [HAS.out, HZA.out]; exact H7.out⟩
        case measure => simp [RowKit.intOf]; omega
      by_cases hk3 : xa.kind = 3
      · have e0 : (xa.kind == 0) = false := beq_eq_false_iff_ne.2 (by omega)
        have e1 : (xa.kind == 1) = false := beq_eq_false_iff_ne.2 (by omega)
        have e2 : (xa.kind == 2) = false := beq_eq_false_iff_ne.2 (by omega)
        have e3 : (xa.kind == 3) = true := beq_iff_eq.2 hk3
        have hZ : N.act xa = N.scratch xa.scr := by unfold Med.act; rw [if_neg hk0, if_neg hk1, if_neg hk2, if_pos hk3]
        rw [hZ] at H5
        rw [hZ]
        have HCALL := Lib.hid (rscratch12 H5.out.f HOKN.out (HSCc.out.keep H5.out.b) (by have := HM1.out; omega))
        unfold rmv at HCALL
        unfold RmP at HCALL
        have HZA : Hid ((N.act xa).2 = (N.scratch xa.scr).2) := Lib.hid (by rw [hZ])
        generalize N.scratch xa.scr = Z at *
        obtain ⟨zc, NN⟩ := Z
        simp only at H5 HCALL HZA
        clear hZ hk0 hk1 hk2 hk3
        go_wp2_with fail
        refine HCALL.out.mono ?_
        rintro e w6 ⟨vL6, vS6, vD6, SS6, rfl, hf6, hb6⟩
        obtain ⟨⟨aL6, cL6, rfl⟩, ⟨aS6, cS6, rfl⟩, aD6, cD6, rfl⟩ := hf6.here.forms
        have hf7 := H5.out.ref (Below.refl _ _) hb6 hf6
        have H7 := Lib.hid (H5.out.store hb6 hf7)
        have hB6 := H5.out.c.call hb6
        clear hf6 hf7 r0 r1 r2 r3 r4
        have r0 := hB6.cell (i := 0) rfl
        have r1 := hB6.cell (i := 1) rfl
        have r2 := hB6.cell (i := 2) rfl
        have r3 := hB6.cell (i := 3) rfl
        have r4 := hB6.cell (i := 4) rfl
        have rf := hB6.free
        clear hB6 hb6 a0 a1 a2 a3 a4 a5 a6 a7
        unfold rmv
        go_wp2_with fail
        go_roundw
        case rel => exact ⟨k + 1, X5, R5, _, _, _, SS6, by omega, by go_num, by rw [HAS.out, HZA.out]; exact H7.out⟩
        case measure => simp [RowKit.intOf]; omega
      have e0 : (xa.kind == 0) = false := beq_eq_false_iff_ne.2 (by omega)
      have e1 : (xa.kind == 1) = false := beq_eq_false_iff_ne.2 (by omega)
      have e2 : (xa.kind == 2) = false := beq_eq_false_iff_ne.2 (by omega)
      have e3 : (xa.kind == 3) = false := beq_eq_false_iff_ne.2 (by omega)
      have hZ : N.act xa = N.damage xa.dam := by unfold Med.act; rw [if_neg hk0, if_neg hk1, if_neg hk2, if_neg hk3]
      rw [hZ] at H5
      rw [hZ]
      have HCALL := Lib.hid (rdamage12 H5.out.f HOKN.out (HDMc.out.below H5.out.b))
      unfold rmv at HCALL
      unfold RmP at HCALL
      have HZA : Hid ((N.act xa).2 = (N.damage xa.dam).2) := Lib.hid (by rw [hZ])
      generalize N.damage xa.dam = Z at *
      obtain ⟨zc, NN⟩ := Z
      simp only at H5 HCALL HZA
      clear hZ hk0 hk1 hk2 hk3
      go_wp2_with fail
      refine HCALL.out.mono ?_
      rintro e w6 ⟨vL6, vS6, vD6, SS6, rfl, hf6, hb6⟩
      obtain ⟨⟨aL6, cL6, rfl⟩, ⟨aS6, cS6, rfl⟩, aD6, cD6, rfl⟩ := hf6.here.forms
      have hf7 := H5.out.ref (Below.refl _ _) hb6 hf6
      have H7 := Lib.hid (H5.out.store hb6 hf7)
      have hB6 := H5.out.c.call hb6
      clear hf6 hf7 r0 r1 r2 r3 r4
      have r0 := hB6.cell (i := 0) rfl
      have r1 := hB6.cell (i := 1) rfl
      have r2 := hB6.cell (i := 2) rfl
      have r3 := hB6.cell (i := 3) rfl
      have r4 := hB6.cell (i := 4) rfl
      have rf := hB6.free
      clear hB6 hb6 a0 a1 a2 a3 a4 a5 a6 a7
      unfold rmv
      go_wp2_with fail
      go_roundw
      case rel => exact ⟨k + 1, X5, R5, _, _, _, SS6, by omega, by go_num, by rw [HAS.out, HZA.out]; exact H7.out⟩
      case measure => simp [RowKit.intOf]; omega
    · obtain rfl : k = l.length := by omega
      obtain ⟨⟨aL, cL, rfl⟩, ⟨aS, cS, rfl⟩, aD, cD, rfl⟩ := hh.f.here.forms
      have HSAME := Lib.hid (same12 hh.m HOKK.out hh.f (by omega))
      have HBF := Lib.hid hh.b
      unfold rmv at HSAME
      have r0 := hh.c.cell (i := 0) rfl
      have r1 := hh.c.cell (i := 1) rfl
      have r2 := hh.c.cell (i := 2) rfl
      have r3 := hh.c.cell (i := 3) rfl
      have r4 := hh.c.cell (i := 4) rfl
      generalize M0.acts ((l.map AV.a).take l.length) = N at *
      clear hh
      go_wp2_with fail
      refine HSAME.out.mono ?_
      rintro e w6 ⟨rfl, hb6⟩
      have HB6 := Lib.hid (HBF.out.trans (hb6.mono HBF.out.size))
      clear hb6
      go_wp2_with fail
      go_ret
      exact ⟨rfl, HB6.out⟩
end Go.Proofs.Ytpncjadhpnapnaa.D12
namespace Go.Proofs.Ytpncjadhpnapnaa.mediumCalls
open Go.ChangeShapes Go.WideShapes Go.ChangeAt Go.RowKit
open Go.ChangeMaps (open_string shut_string)
open C9 D12
set_option linter.unusedVariables false
theorem own : ownKnob Try.prog.godebug = none := by kernel_rfl
theorem laidOut : laidOutB Try.prog = true := by kernel_rfl

set_option maxRecDepth 100000 in
set_option maxHeartbeats 1000000 in
theorem lifted (os : Os) (started : os.Started) (H : Type) (enc : TypeId × Value → H) :
    ReturnsInHanded {} Try.checked os 6 .any (Rows.mediumCallsSpec.pre6 enc Try.prog Try.f6 Rows.mediumCallsRow.domain false) (Rows.mediumCallsSpec.post enc Try.prog Try.f6 false true false false) := by
  refine returnsInHanded_of_change (C := Try.checked) own started (by kernel_rfl) Try.func6
    (ChangeSpec.witness6 (enc := enc) (C := Try.checked) false ⟨#[], #[.int .i64 0, .int .i64 0, .int .i64 0, .slice none 0 0], []⟩ 8 (by kernel_rfl) (by kernel_rfl) (by kernel_rfl) (by kernel_rfl)) ?_
  intro W base args ds gs before hval0 hW hcnd _
  have hval : ∀ (j : Nat) t v, Try.f6.params[j]? = some t → args[j]? = some v → Value.okWide Try.prog W .any base t v := hval0
  have hW' := hW
  obtain ⟨p, q, hA0, hV, rfl, hfz, hnd⟩ := hW
  have hA : DataW.TrodAll enc Try.prog W 0 (fun _ => true) true Try.f6.params.toList args.toList ds p := hA0
  rw [Try.params6] at hA hval
  obtain ⟨v0, vs0, d0, ds0, p0, q0, hargs, rfl, rfl, h0, r0⟩ := trodAll_cons hA
  obtain ⟨v1, vs1, d1, ds1, p1, q1, rfl, rfl, rfl, h1, r1⟩ := trodAll_cons r0
  obtain ⟨v2, vs2, d2, ds2, p2, q2, rfl, rfl, rfl, h2, r2⟩ := trodAll_cons r1
  obtain ⟨v3, vs3, d3, ds3, p3, q3, rfl, rfl, rfl, h3, r3⟩ := trodAll_cons r2
  obtain ⟨rfl, rfl, rfl⟩ := trodAll_nil r3
  obtain rfl : args = #[v0, v1, v2, v3] := by cases args; simp_all
  obtain ⟨rfl, rfl⟩ := trodVars_none hV
  have k0 := h0
  have lt0 : ∀ x ∈ p0, x.block < W.heap.size := by obtain ⟨m, hm⟩ := k0; exact DataW.trod_lt m _ _ _ hm
  obtain ⟨a0, rfl, _, _, w0⟩ := open_int Try.underlying3 (hval 0 3 v0 rfl rfl) h0
  have k1 := h1
  have lt1 : ∀ x ∈ p1, x.block < W.heap.size := by obtain ⟨m, hm⟩ := k1; exact DataW.trod_lt m _ _ _ hm
  obtain ⟨a1, rfl, _, _, w1⟩ := open_int Try.underlying3 (hval 1 3 v1 rfl rfl) h1
  have k2 := h2
  have lt2 : ∀ x ∈ p2, x.block < W.heap.size := by obtain ⟨m, hm⟩ := k2; exact DataW.trod_lt m _ _ _ hm
  obtain ⟨a2, rfl, _, _, w2⟩ := open_int Try.underlying3 (hval 2 3 v2 rfl rfl) h2
  have k3 := h3
  have lt3 : ∀ x ∈ p3, x.block < W.heap.size := by obtain ⟨m, hm⟩ := k3; exact DataW.trod_lt m _ _ _ hm
  obtain ⟨a3, w3⟩ := open_cacts (hval 3 54 v3 rfl rfl) h3
  refine (calls_law W a0 w0 a1 w1 a2 w2 v3 a3 w3).mono fun e W' ⟨he, bel⟩ => ?_
  subst he
  exact ⟨_, rfl, _, _, _, [], _, [], hW', trodAll_mk1 (shut_bool Try.underlying4 _), (trodAll_cons_mk (Below.trod laidOut (by kernel_rfl) (of_decide_eq_true (by kernel_rfl)) k0 bel lt0) (trodAll_cons_mk (Below.trod laidOut (by kernel_rfl) (of_decide_eq_true (by kernel_rfl)) k1 bel lt1) (trodAll_cons_mk (Below.trod laidOut (by kernel_rfl) (of_decide_eq_true (by kernel_rfl)) k2 bel lt2) (trodAll_cons_mk (Below.trod laidOut (by kernel_rfl) (of_decide_eq_true (by kernel_rfl)) k3 bel lt3) trodAll_mk0)))), rfl, bel.frame _, fun h => by cases h⟩

theorem over : Rows.mediumCallsRow.holds Try.pinned (OpenSpec.ofChange Rows.mediumCallsSpec) :=
  OpenClaim.holds_of_wide 6 Try.f6 rfl rfl rfl rfl rfl rfl rfl ⟨rfl, rfl, rfl, rfl, rfl⟩ rfl rfl rfl rfl rfl (by kernel_rfl) Try.func6 (by kernel_rfl)
    (of_decide_eq_true (by kernel_rfl)) (by unfold Func.isWrapper; first | (rw [if_pos (by decide +kernel)]; kernel_rfl) | (rw [if_neg (by decide +kernel)]; exact ⟨rfl, rfl⟩))
    (fun os started H enc _ => lifted os started H enc)

/-- The statement. -/
theorem proved : Rows.MediumCallsSaid := over
end Go.Proofs.Ytpncjadhpnapnaa.mediumCalls
