/- Parts: XJh XIk XJi -/
import Derived.Test.YtflmjdjkfognjaaGreatTe42
import Derived.Test.YtflmjdjkfognjaaGreatTe43
import Derived.Test.YtflmjdjkfognjaaGreatTe32
import Derived.Test.YtflmjdjkfognjaaGreatTe29
import Derived.Test.YtflmjdjkfognjaaGreatTe14
namespace Go.Proofs.YtflmjdjkfognjaaGreat.T7
open Go Go.ChangeShapes Go.WideShapes Go.RowKit C9 D12
set_option linter.unusedVariables false
def Peels (l : List Int) : Prop := ∃ i, W8.keepL (W8.itP l i) l = []
theorem peels_nil : Peels [] := ⟨0, rfl⟩
theorem lost_nil (n i k : Nat) : lostP n [] i k = false := by
  have e : ∀ m, lostN [] m = [] := fun m => lostN_none (fun f => by
    have : ersK [] f 28 = [] := by simp [ersK, gon]
    rw [ers, this]; decide) m
  simp [lostP, lostL, e]
theorem gone_er {M : Med} (h : M.scr = []) (i : Nat) : M.gone i = ((List.range 2352).filter (M.sec i).er).map Int.ofNat := by
  unfold Med.gone
  congr 2
  funext k
  unfold Med.goneP
  rw [h, lost_nil, Bool.or_false]
structure PrM (L : List (List UInt8)) (M : Med) (S : Int → Bool) : Prop where
  n : M.n = L.length
  ok : M.Ok 1
  scr : M.scr = []
  st : ∀ i, i < L.length → (M.sec i).st = 1
  raw : ∀ i, i < L.length → (M.sec i).raw = rec (i : Nat) (atD [] L i)
  ch : ∀ i, i < L.length → ∀ k, (M.sec i).ch k = 0
  new : ∀ i : Nat, i < L.length → S i = false → ∀ k, (M.sec i).er k = false
  peel : ∀ i, i < L.length → Peels (inn (M.gone i))
theorem PrM.start {L : List (List UInt8)} (h1 : 1 ≤ L.length) (h2 : L.length ≤ 4096) : PrM L (medPress (recs L L.length)) (fun _ => false) := by
  have hs : ∀ i, i < L.length → (medPress (recs L L.length)).sec i = (recS (T7.rec (i : Nat) (atD [] L i))).s := fun i hi => by
    rw [medPress_sec _ (by rw [recs_len]; exact hi), recs_at L hi]
  refine ⟨by rw [medPress_n, recs_len], medPress_ok (by rw [recs_len]; exact h1) (by rw [recs_len]; exact h2) (fun i hi => ?_), rfl, fun i hi => by rw [hs i hi]; simp only [recS], fun i hi => by rw [hs i hi]; simp only [recS], fun i hi k => by rw [hs i hi]; rfl, fun i hi _ k => by rw [hs i hi]; rfl, fun i hi => ?_⟩
  · rw [recs_len] at hi
    rw [recs_at L hi]; exact rec_len _ _
  · have : (medPress (recs L L.length)).gone i = [] := by
      rw [gone_er (show (medPress (recs L L.length)).scr = [] from rfl), hs i hi]
      simp [recS]
    rw [this]; exact peels_nil
theorem PrM.set {L : List (List UInt8)} {M : Med} {S : Int → Bool} (h : PrM L M S) (x : Int) : PrM L M (setF S x true) := by
  refine ⟨h.n, h.ok, h.scr, h.st, h.raw, h.ch, fun i hi hs => h.new i hi ?_, h.peel⟩
  unfold setF at hs
  split at hs
  · cases hs
  · exact hs
theorem dam_two (M : Med) (d : Dam) : M.damage d = (1, M) ∨ (M.damage d).1 = 0 := by
  unfold Med.damage
  split
  · exact .inr rfl
  · exact .inl rfl
theorem PrM.dam {L : List (List UInt8)} {M : Med} {S : Int → Bool} (h : PrM L M S) (d : Dam) (hc : d.ch = []) (hS : S d.lba = false) (hp : Peels (inn d.er)) : PrM L (M.damage d).2 (setF S d.lba true) := by
  have hS2 := h.set d.lba
  have hok := h.ok.damage d
  unfold Med.damage at hok ⊢
  split
  · rename_i hd
    rw [if_pos hd] at hok
    obtain ⟨⟨h1, h2⟩, ⟨h3, h4⟩, h5⟩ := hd
    have hn := h.n
    obtain ⟨j, hj⟩ : ∃ j : Nat, d.lba = j := ⟨d.lba.toNat, by omega⟩
    have hjt : d.lba.toNat = j := by omega
    have hjM : j < M.n := by omega
    rw [hjt] at hok ⊢
    have hce : chF (M.sec j).ch d.ch = (M.sec j).ch := by rw [hc]; rfl
    rw [hce] at hok ⊢
    have hsec : ∀ i, i < L.length → (M.put j { M.sec j with er := erF (M.sec j).er d.er }).sec i = if i = j then { M.sec j with er := erF (M.sec j).er d.er } else M.sec i := fun i hi => by
      by_cases e : i = j
      · subst e; rw [if_pos rfl, Med.put_sec _ _ hjM]
      · rw [if_neg e, Med.put_other _ _ e]
    refine ⟨by rw [Med.put_n]; exact hn, hok, h.scr, fun i hi => ?_, fun i hi => ?_, fun i hi k => ?_, fun i hi hs k => ?_, fun i hi => ?_⟩
    · show (Med.sec _ i).st = 1
      rw [hsec i hi]
      split
      · rename_i e; subst e; exact h.st i hi
      · exact h.st i hi
    · show (Med.sec _ i).raw = _
      rw [hsec i hi]
      split
      · rename_i e; subst e; exact h.raw i hi
      · exact h.raw i hi
    · show (Med.sec _ i).ch k = 0
      rw [hsec i hi]
      split
      · rename_i e; subst e; exact h.ch i hi k
      · exact h.ch i hi k
    · show (Med.sec _ i).er k = false
      rw [hsec i hi]
      unfold setF at hs
      by_cases e : (i : Int) = d.lba
      · rw [if_pos e] at hs; cases hs
      · rw [if_neg e] at hs
        rw [if_neg (by omega)]
        exact h.new i hi hs k
    · have hscr : (M.put j { M.sec j with er := erF (M.sec j).er d.er }).scr = [] := h.scr
      show Peels (inn (Med.gone _ i))
      rw [gone_er hscr, hsec i hi]
      by_cases e : i = j
      · subst e
        rw [if_pos rfl]
        have hnew := h.new i hi (by rw [← hj]; exact hS)
        have hg : ((List.range 2352).filter (erF (M.sec i).er d.er)).map Int.ofNat = d.er := by
          refine sorted_eq ?_ h4 fun z => ?_
          · rw [List.pairwise_map]
            exact (List.Pairwise.filter _ List.pairwise_lt_range).imp fun h => by simpa using h
          · rw [List.mem_map]
            constructor
            · rintro ⟨k, hk, rfl⟩
              rw [List.mem_filter] at hk
              have h6 := hk.2
              unfold erF at h6
              rw [hnew k, Bool.false_or, decide_eq_true_eq] at h6
              exact h6
            · intro hz
              have := h3 z hz
              refine ⟨z.toNat, ?_, by simp; omega⟩
              rw [List.mem_filter, List.mem_range]
              refine ⟨by omega, ?_⟩
              unfold erF
              rw [hnew, Bool.false_or, decide_eq_true_eq]
              have : ((z.toNat : Nat) : Int) = z := by omega
              rw [this]; exact hz
        show Peels (inn (((List.range 2352).filter (erF (M.sec i).er d.er)).map Int.ofNat))
        rw [hg]; exact hp
      · rw [if_neg e]
        have := h.peel i hi
        rwa [gone_er h.scr] at this
  · exact hS2
theorem PrM.blk {L : List (List UInt8)} {M : Med} {S : Int → Bool} (h : PrM L M S) (hl : ∀ i, i < L.length → (atD [] L i).length = 2048) (h3 : L.length ≤ 4096) {i : Nat} (hi : i < L.length) : BlkAt M i (i : Nat) (atD [] L i) :=
  ⟨by rw [h.n]; exact hi, hl i hi, by omega, by omega, h.st i hi, h.raw i hi, fun k _ => h.ch i hi k, h.peel i hi⟩
def dvz : DV := ⟨⟨0, [], []⟩, .slice none 0 0, .slice none 0 0⟩
def dvD (x : DV) : List Value := [.int .i64 x.d.lba, x.vE, x.vC]
def CameDams (w : World) (v : Value) (l : List DV) : Prop := RdD dvz dvD 3 w v l ∧ l.length ≤ 9223372036854775807 ∧ ∀ i, i < l.length → CameD w (atD dvz l i).vE (atD dvz l i).vC (atD dvz l i).d
section
variable {H : Type} {enc : TypeId × Value → H} {w : World} {base b0 : Nat} {sp : Nat → Bool} {held : Bool}
set_option maxRecDepth 100000 in
theorem open_cdams {v : Value} {d : DataW H} {ps : List MemPlace} {r : Reach} (hval : Value.okWide Tryz.prog w r b0 48 v) (hd : DataW.Trod enc Tryz.prog w base sp held 48 v d ps) : ∃ l, CameDams w v l := by
  obtain ⟨a, len, cap, rfl⟩ := okWide_slice Tryz.underlying48 hval
  obtain ⟨fuel, hf⟩ := hd
  obtain ⟨l, h1, h2, h3⟩ := open_rdS dvz dvD (fun x => CameD w x.vE x.vC x.d) Tryz.underlying48 Tryz.cells12d (by omega) (fun n cs x h => by
    obtain ⟨t, e, hc⟩ := dam_cells n cs x h
    exact ⟨t, e, hc⟩) (by simpa [Value.cells] using hf)
  exact ⟨l, h1, h2, h3⟩
end
theorem delNil (fi : Nat) (hfi : ∀ args W, (callFunc fi args).run Tryz.prog W = .ok (.enter fi args) W) (q : Int → Bool) (a : Option Addr) (c : Nat) (w : World)
    (h : ∀ x W, Calls Tryz.prog fi #[.int .i64 x] W fun e w' => e = .returned (.bool (!q x)) ∧ W = w') :
    Calls Tryz.prog 16 #[.slice a 0 c, .func (.func fi) #[] #[]] w fun e w' => e = .returned (.slice a 0 c) ∧ w = w' := by
  have hrd : RdI w (.slice a 0 c) [] := ⟨by simp, ⟨a, c, 0, 0, rfl, by simp, fun i hi => by simp at hi⟩, fun i hi => by simp at hi⟩
  have HI := Lib.hid (idxi7 fi hfi q _ [] w hrd h)
  clear hrd
  go_enter Tryz.func16, Tryz.ntmps16
  go_wp2_with fail
  refine HI.out.mono ?_
  rintro e w' ⟨r, rfl, (⟨rfl, hall⟩ | ⟨k, rfl, hk, hbefore, hno⟩), rfl⟩
  · go_wp2_with fail
    go_ret
    exact ⟨rfl, rfl⟩
  · exact absurd hk (by simp)
def CloneV (w w' : World) (v : Value) (l : List Int) : Prop := (l = [] ∧ ∃ a c, v = .slice a 0 c) ∨ ∃ g c, v = .slice (some ⟨g, 0, none⟩) l.length c ∧ W8.RowI w' 3 g c l ∧ w.heap.size ≤ g
theorem delC (fi : Nat) (hfi : ∀ args W, (callFunc fi args).run Tryz.prog W = .ok (.enter fi args) W) (q : Int → Bool) (v : Value) (l : List Int) (w w1 : World) (hl : l.length ≤ 100000) (hb : ∀ x ∈ l, -9223372036854775808 ≤ x ∧ x ≤ 9223372036854775807)
    (hr : CloneV w w1 v l) (hw : Below w.heap.size w w1) (h : ∀ x W, Calls Tryz.prog fi #[.int .i64 x] W fun e w' => e = .returned (.bool (!q x)) ∧ W = w') :
    Calls Tryz.prog 16 #[v, .func (.func fi) #[] #[]] w1 fun e w' => ∃ v2, e = .returned v2 ∧ RdI w' v2 (keepF q l) ∧ Below w.heap.size w w' := by
  rcases hr with ⟨rfl, a, c, rfl⟩ | ⟨g, c, rfl, hrow, hg⟩
  · refine (delNil fi hfi q a c w1 h).mono ?_
    rintro e w' ⟨rfl, rfl⟩
    exact ⟨_, rfl, ⟨by simp [keepF], ⟨a, c, 0, 0, rfl, by simp [keepF], fun i hi => by simp [keepF] at hi⟩, fun i hi => by simp [keepF] at hi⟩, hw⟩
  · refine (delf7 fi hfi q g c l.length l w1 hrow rfl hl hb h).mono ?_
    rintro e w' ⟨v2, rfl, h2, h3⟩
    exact ⟨v2, rfl, h2, hw.grown h3 hw.size (fun k hk => by have := Option.some.inj hk; omega)⟩
end Go.Proofs.YtflmjdjkfognjaaGreat.T7
namespace Go.Proofs.YtflmjdjkfognjaaGreat.T7
open Go Go.RowKit W10
set_option linter.unusedVariables false
def frs (lba : Int) (d : List UInt8) : List (List UInt8) := C9.frms (rec lba d) 98 206
theorem frs_len (lba : Int) (d : List UInt8) : (frs lba d).length = 206 := C9.frms_length _ _ _
theorem enc7 (lba : Int) (d : List UInt8) (w : World) : Calls Tryz.prog 30 #[.string (str (rec lba d))] w fun e w' => ∃ a c, e = .returned (.tuple #[.slice a 206 c, .int .i64 0]) ∧ C9.RdStr w' (.slice a 206 c) (frs lba d) ∧ Below w.heap.size w w' := by
  have h := C9.pencC_any (rec lba d) w (by rw [rec_len]; omega)
  have e : C9.encR (rec lba d) = (frs lba d, 0) := by
    unfold C9.encR
    rw [rec_len]
    rfl
  rw [e] at h
  refine h.mono fun e w' hq => ?_
  obtain ⟨v, rfl, hr, hb⟩ := C9.EncP.rd hq
  obtain ⟨a, c, rfl, hl⟩ := RdD.form hr
  dsimp only at hr hl ⊢
  rw [frs_len] at hr hl ⊢
  exact ⟨a, c, rfl, hr, hb⟩
theorem scr7 (lba : Int) (d : List UInt8) (x : C9.Sc) (hx : C9.Wf x) (hf : C9.fitB 206 x = true) (va v : Value) (w : World) (hF : C9.RdStr w va (frs lba d)) (hv : C9.CameSc w v [x]) : Calls Tryz.prog 31 #[va, v] w fun e w' => ∃ a c, e = .returned (.tuple #[.slice a 206 c, .int .i64 0]) ∧ C9.RdStr w' (.slice a 206 c) (C9.scrF (frs lba d) [x]) ∧ Below w.heap.size w w' := by
  have h := C9.pscratch_any va (frs lba d) v [x] w hF (by rw [frs_len]; omega) hv
  have e : C9.scrR (frs lba d) [x] = (C9.scrF (frs lba d) [x], 0) := by
    have hA : C9.fitA (frs lba d).length [x] = true := by rw [frs_len]; unfold C9.fitA; rw [List.all_cons, hf]; rfl
    unfold C9.scrR
    rw [hA, if_neg (by decide)]
  rw [e] at h
  refine h.mono fun e w' hq => ?_
  obtain ⟨v, rfl, hr, hb⟩ := C9.EncP.rd hq
  obtain ⟨a, c, rfl, hl⟩ := RdD.form hr
  dsimp only at hr hl ⊢
  rw [C9.scrF_length, frs_len] at hr hl ⊢
  exact ⟨a, c, rfl, hr, hb⟩
theorem dec7 (lba : Int) (d : List UInt8) (x : C9.Sc) (hx : x.c ≤ 16) (va : Value) (w : World) (hF : C9.RdStr w va (C9.scrF (frs lba d) [x])) : Calls Tryz.prog 32 #[va] w fun e w' => ∃ a c, e = .returned (.tuple #[.string (str (rec lba d)), .slice a 0 c, .int .i64 0]) ∧ Below w.heap.size w w' := by
  have h := C9.pdecC_any va _ w hF (by rw [C9.scrF_length, frs_len]; omega)
  have e : C9.decR (C9.scrF (frs lba d) [x]) = (rec lba d, [], 0) := C9.decR_none (n := 98) (by omega) (by omega) (rec_len lba d) (C9.near_scr (rec lba d) 98 [x]) (C9.lost_burst x hx 98)
  rw [e] at h
  refine h.mono fun e w' hq => ?_
  obtain ⟨v, he, ho, hb⟩ := hq
  dsimp only at he ho
  obtain ⟨a, c, rfl⟩ := ownD_form ho
  exact ⟨a, c, he, hb⟩
set_option maxRecDepth 100000 in
set_option maxHeartbeats 4000000 in
theorem coded_any (w : World) : Calls Tryz.prog 6 #[] w fun e w' => e = .returned (.bool true) ∧ Below w.heap.size w w' := by
  have HRP : Hid (∀ W : World, Calls Tryz.prog 29 #[.string ⟨#[0]⟩, .int .i64 2048] W fun e w' => e = .returned (.string (str zD)) ∧ Below W.heap.size W w') := Lib.hid (repeat7 0 2048 (by omega))
  have HRC := Lib.hid (fun W => recorded_any 0 zD W (by decide) (by decide) zD_len)
  have HEN := Lib.hid (fun W => enc7 0 zD W)
  have wf : C9.Wf ⟨50, 16⟩ := by unfold C9.Wf; decide
  have HSC := Lib.hid (fun va v W => scr7 0 zD ⟨50, 16⟩ wf (by decide) va v W)
  have HWF := Lib.hid wf
  have HDE := Lib.hid (fun va W => dec7 0 zD ⟨50, 16⟩ (by decide) va W)
  have HDS := Lib.hid (fun W => descramble_0 0 zD zD_len W)
  have HPA := Lib.hid (fun W => parse_0 (par_good (lba := 0) (by decide) (by decide) zD_len) W)
  have HVA := Lib.hid (fun W => valid_0 0 zD zD_len W)
  have s1 := fun W => sub_both (P := Tryz.prog) Tryz.underlying9 (rec 0 zD) 12 16 (by omega) (by rw [rec_len]; omega) 12 16 rfl rfl W
  rw [rec_head, show str [1, 130, 0, 97] = ⟨#[1, 130, 0, 97]⟩ from rfl] at s1
  have hsz := str_size (rec 0 zD)
  rw [rec_len] at hsz
  have hbb := C9.bytes_beq (str (rec 0 zD))
  unfold secV at HPA
  generalize frs 0 zD = F at *
  generalize str (rec 0 zD) = R at *
  generalize str (par 0 zD) = P at *
  generalize str zD = ZS at *
  have hsz2 : R.data.size = 2352 := hsz
  clear wf
  go_enter Tryz.func6, Tryz.ntmps6
  go_wp2_with fail
  refine (HRP.out w).mono ?_
  rintro e w1 ⟨rfl, hb1⟩
  go_wp2_with fail
  refine (HRC.out w1).mono ?_
  rintro e w2 ⟨rfl, hb2⟩
  have HA2 := Lib.hid (hb1.trans (hb2.mono hb1.size))
  clear hb1 hb2
  go_wp2_with fail
  refine (HEN.out w2).mono ?_
  rintro e w3 ⟨a3, c3, rfl, hr3, hb3⟩
  have HA3 := Lib.hid (HA2.out.trans (hb3.mono HA2.out.size))
  have hA := (Below.refl w3.heap.size w3).alloc (Nat.le_refl _) (.cells #[.int .i64 50, .int .i64 16] 96)
  have hr4 := hr3.keep hA
  have hbx : Bx (w3.alloc (.cells #[.int .i64 50, .int .i64 16] 96)) w3.heap.size 96 (C9.scc ⟨50, 16⟩) := Bx.new w3 _ (C9.scc ⟨50, 16⟩)
  have HS4 := Lib.hid (HSC.out _ _ _ hr4 (cameSc7 ⟨50, 16⟩ HWF.out hbx))
  have HA4 := Lib.hid (HA3.out.trans (hA.mono HA3.out.size))
  clear hb3 hr3 hA hr4 hbx
  go_wp2_with fail
  refine HS4.out.mono ?_
  rintro e w5 ⟨a5, c5, rfl, hr5, hb5⟩
  have HA5 := Lib.hid (HA4.out.trans (hb5.mono HA4.out.size))
  have HD5 := Lib.hid (HDE.out _ _ hr5)
  clear hb5 hr5
  go_wp2_with fail
  refine HD5.out.mono ?_
  rintro e w6 ⟨a6, c6, rfl, hb6⟩
  have HA6 := Lib.hid (HA5.out.trans (hb6.mono HA5.out.size))
  clear hb6
  go_wp2_with fail
  refine (HDS.out w6).mono ?_
  rintro e w7 ⟨rfl, hb7⟩
  have HA7 := Lib.hid (HA6.out.trans (hb7.mono HA6.out.size))
  clear hb7
  go_wp2_with fail
  refine (HPA.out w7).mono ?_
  rintro e w8 ⟨rfl, hb8⟩
  have hA8 := HA7.out.trans (hb8.mono HA7.out.size)
  obtain ⟨bs8, hbs⟩ : ∃ b, b = w8.heap.size := ⟨_, rfl⟩
  obtain ⟨w9, hw9⟩ : ∃ w9, w9 = w8.alloc (.cells #[.int .i64 0, .int .i64 0, .int .i64 0, .int .i64 0, .int .i64 0, .int .i64 0, .string ZS] 103) := ⟨_, rfl⟩
  have hA9 := hA8.alloc hA8.size (.cells #[.int .i64 0, .int .i64 0, .int .i64 0, .int .i64 0, .int .i64 0, .int .i64 0, .string ZS] 103)
  rw [← hw9] at hA9
  have hx : Bx w9 bs8 103 [.int .i64 0, .int .i64 0, .int .i64 0, .int .i64 0, .int .i64 0, .int .i64 0, .string ZS] := by rw [hw9, hbs]; exact Bx.new w8 _ _
  have x0 := hx.cell (i := 0) rfl
  have HW9 : Hid (w8.alloc (.cells #[.int .i64 0, .int .i64 0, .int .i64 0, .int .i64 0, .int .i64 0, .int .i64 0, .string ZS] 103) = w9) := Lib.hid hw9.symm
  have HBS := Lib.hid hbs
  have HA9 := Lib.hid hA9
  clear hb8 hA8 hA9 hx hw9 hbs
  go_upto_region 11 with (fail)
  rw [HW9.out, ← HBS.out]
  go_wp2_with fail
  refine (HVA.out w9).mono ?_
  rintro e wa ⟨rfl, hba⟩
  have HAa := Lib.hid (HA9.out.trans (hba.mono HA9.out.size))
  clear hba
  go_wp2_with fail
  go_ret
  exact ⟨rfl, HAa.out⟩
end Go.Proofs.YtflmjdjkfognjaaGreat.T7
namespace Go.Proofs.YtflmjdjkfognjaaGreat.T7
open Go Go.RowKit C9 D12
set_option linter.unusedVariables false
theorem topE1 (x : Int) (W : World) : Calls Tryz.prog 18 #[.int .i64 x] W fun e w' => e = .returned (.bool (!decide (12 ≤ x))) ∧ W = w' := by
  go_enter Tryz.func18, Tryz.ntmps18
  go_wp2_with fail
  go_ret
  exact ⟨retB (by by_cases h : x < 12 <;> simp [h] <;> omega), rfl⟩
structure ErI (L : List (List UInt8)) (w : World) (p pm mb : Nat) (vt : Value) (k m : Nat) (S : Int → Bool) (M : Med) (X R : Nat → Prop) (W : World) : Prop where
  set : SetI W mb m S
  le : m ≤ k
  box : Bx W p 139 (drvC 0 L.length pm none 1 true vt ⟨#[]⟩ ⟨#[]⟩ (.slice none 0 0))
  med : MedW W pm M X R
  pr : PrM L M S
  new : ∀ b, X b ∨ R b → w.heap.size ≤ b ∧ b ≠ p ∧ b ≠ mb
  ne : p ≠ mb
  hp : w.heap.size ≤ p
  hm : w.heap.size ≤ mb
  bl : Below w.heap.size w W
section
variable {L : List (List UInt8)} {w : World} {p pm mb : Nat} {vt : Value} {k m : Nat} {S : Int → Bool} {M : Med} {X R : Nat → Prop} {W W' : World}
theorem ErI.below (h : ErI L w p pm mb vt k m S M X R W) (hb : Below W.heap.size W W') : ErI L w p pm mb vt k m S M X R W' :=
  ⟨h.set.below hb, h.le, h.box.call hb, h.med.below hb, h.pr, h.new, h.ne, h.hp, h.hm, h.bl.trans (hb.mono h.bl.size)⟩
theorem ErI.next (h : ErI L w p pm mb vt k m S M X R W) : ErI L w p pm mb vt (k + 1) m S M X R W := ⟨h.set, by have := h.le; omega, h.box, h.med, h.pr, h.new, h.ne, h.hp, h.hm, h.bl⟩
theorem ErI.grown (h : ErI L w p pm mb vt k m S M X R W) {m2 : Nat} {S2 : Int → Bool} (hs : SetI W' mb m2 S2) (hg : W.grownBy W' (some mb)) (hp : PrM L M S2) (hm : m2 ≤ k + 1) : ErI L w p pm mb vt (k + 1) m2 S2 M X R W' := by
  have hk : ∀ b, b < W.heap.size → b ≠ mb → W'.heap[b]? = W.heap[b]? := fun b hb hn => hg.block b hb (fun e => hn (Option.some.inj e))
  obtain ⟨Ly, hmed⟩ := h.med
  exact ⟨hs, hm, (hk p h.box.lt h.ne).trans h.box, ⟨Ly, hmed.keep hg.size fun b hb => hk b (hmed.lt b hb) (h.new b hb).2.2⟩, hp, h.new, h.ne, h.hp, h.hm, h.bl.grown hg h.bl.size (fun q hq => by have := Option.some.inj hq; have := h.hm; omega)⟩
theorem ErI.far (h : ErI L w p pm mb vt k m S M X R W) {bx : Nat} (hb : bx ≠ p ∧ bx ≠ mb ∧ ∀ b, X b ∨ R b → b ≠ bx) (hw : w.heap.size ≤ bx) (j : Nat) (u : Value) : ErI L w p pm mb vt k m S M X R (W.setCell ⟨bx, j, none⟩ u) := by
  have hk : ∀ b, b ≠ bx → (W.setCell ⟨bx, j, none⟩ u).heap[b]? = W.heap[b]? := fun b hn => Below.heap_setCell W _ _ b hn
  obtain ⟨Ly, hmed⟩ := h.med
  exact ⟨h.set.kept (hk mb (Ne.symm hb.2.1)), h.le, (hk p (Ne.symm hb.1)).trans h.box, ⟨Ly, hmed.keep (by simp) fun b h1 => hk b (hb.2.2 b h1)⟩, h.pr, h.new, h.ne, h.hp, h.hm, h.bl.setCell hw _⟩
theorem ErI.dam (h : ErI L w p pm mb vt k m S M X R W) {M2 : Med} {X2 R2 : Nat → Prop} (hm : MedW W' pm M2 X2 R2) (hc : Ch X R X2 R2 W W') (hp : PrM L M2 S) : ErI L w p pm mb vt k m S M2 X2 R2 W' := by
  have hX : ∀ b, X b → w.heap.size ≤ b := fun b hb => (h.new b (.inl hb)).1
  refine ⟨h.set.kept (hc.block mb h.set.lt fun hx => (h.new mb (.inl hx)).2.2 rfl), h.le, (hc.block p h.box.lt fun hx => (h.new p (.inl hx)).2.1 rfl).trans h.box, hm, hp, fun b hb => ?_, h.ne, h.hp, h.hm, h.bl.trans (hc.below _ h.bl.size hX)⟩
  have hw := h.bl.size
  have hpl := h.box.lt
  have hml := h.set.lt
  rcases hb with hb | hb
  · rcases hc.x b hb with h1 | h1
    · exact h.new b (.inl h1)
    · exact ⟨by omega, by omega, by omega⟩
  · rcases hc.r b hb with h1 | h1
    · exact h.new b (.inr h1)
    · exact ⟨by omega, by omega, by omega⟩
end
set_option maxRecDepth 100000 in
set_option maxHeartbeats 4000000 in
theorem erasures_many (w : World) (a1 : Option Addr) (n1 c1 : Nat) (a2 : Option Addr) (n2 c2 : Nat) (h1 : n1 ≤ 9223372036854775807) (h2 : n2 ≤ 9223372036854775807) (h : n1 = 0 ∨ 3 < n1 ∨ 3 < n2) :
    Calls Tryz.prog 4 #[.slice a1 n1 c1, .slice a2 n2 c2] w fun e w' => e = .returned (.bool true) ∧ Below w.heap.size w w' := by
  have HC := Lib.hid (coded_any w)
  by_cases h0 : n1 = 0
  · have d0 : ((n1 : Int) == 0) = true := beq_iff_eq.2 (by omega)
    clear h h1 h2 h0
    go_enter Tryz.func4, Tryz.ntmps4
    go_wp2_with fail
    refine HC.out.mono ?_
    rintro e w1 ⟨rfl, hb1⟩
    have HB1 := Lib.hid hb1
    clear hb1
    go_wp2_with fail
    go_ret
    exact ⟨rfl, HB1.out⟩
  · have d0 : ((n1 : Int) == 0) = false := beq_eq_false_iff_ne.2 (by omega)
    by_cases h3 : 3 < n1
    · have d1 : decide (3 < (n1 : Int)) = true := decide_eq_true (by omega)
      clear h h1 h2 h0 h3
      go_enter Tryz.func4, Tryz.ntmps4
      go_wp2_with fail
      refine HC.out.mono ?_
      rintro e w1 ⟨rfl, hb1⟩
      have HB1 := Lib.hid hb1
      clear hb1
      go_wp2_with fail
      go_ret
      exact ⟨rfl, HB1.out⟩
    · have d1 : decide (3 < (n1 : Int)) = false := decide_eq_false (by omega)
      have d2 : decide (3 < (n2 : Int)) = true := decide_eq_true (by omega)
      clear h h1 h2 h0 h3
      go_enter Tryz.func4, Tryz.ntmps4
      go_wp2_with fail
      refine HC.out.mono ?_
      rintro e w1 ⟨rfl, hb1⟩
      have HB1 := Lib.hid hb1
      clear hb1
      go_wp2_with fail
      go_ret
      exact ⟨rfl, HB1.out⟩
set_option maxRecDepth 100000 in
set_option maxHeartbeats 4000000 in
theorem erasures_bad (w : World) (v1 : Value) (L : List (List UInt8)) (hL : CameStr w v1 L) (a2 : Option Addr) (n2 c2 : Nat) (h1 : 1 ≤ L.length) (h2 : L.length ≤ 3) (h3 : n2 ≤ 3) (hbad : anyS (lenP 2048) L = true) :
    Calls Tryz.prog 4 #[v1, .slice a2 n2 c2] w fun e w' => e = .returned (.bool true) ∧ Below w.heap.size w w' := by
  have HC := Lib.hid (coded_any w)
  have hz : ∀ x ∈ L, x.length ≤ 9223372036854775807 := fun x hx => by
    obtain ⟨i, hi, rfl⟩ := List.getElem_of_mem hx
    have := hL.2.2 i hi
    simpa [atD, hi] using this
  have HP := Lib.hid (fun W (hW : Below w.heap.size w W) => dpress7_bad v1 L W (RdD.keep hL.1 hW) h1 (by omega) hz hbad)
  obtain ⟨a1, c1, rfl, _⟩ := RdD.form hL.1
  obtain ⟨n1, hn1⟩ : ∃ n, n = L.length := ⟨_, rfl⟩
  rw [← hn1] at h1 h2 HP ⊢
  have d0 : ((n1 : Int) == 0) = false := beq_eq_false_iff_ne.2 (by omega)
  have d1 : decide (3 < (n1 : Int)) = false := decide_eq_false (by omega)
  have d2 : decide (3 < (n2 : Int)) = false := decide_eq_false (by omega)
  clear hL h1 h2 h3 hz hbad hn1
  go_enter Tryz.func4, Tryz.ntmps4
  go_wp2_with fail
  refine HC.out.mono ?_
  rintro e w1 ⟨rfl, hb1⟩
  have HB1 := Lib.hid hb1
  have HP1 := Lib.hid (HP.out w1 hb1)
  clear hb1
  go_wp2_with fail
  refine HP1.out.mono ?_
  rintro e w2 ⟨rfl, rfl⟩
  go_wp2_with fail
  go_ret
  exact ⟨rfl, HB1.out⟩
end Go.Proofs.YtflmjdjkfognjaaGreat.T7
