/- Parts: XRsW -/
import Derived.Test.YtflmjdjkfognjaaGreatTe07
import Derived.Test.YtflmjdjkfognjaaGreatTe01
namespace Go.Proofs.YtflmjdjkfognjaaGreat
open Go.RowKit
set_option linter.unusedVariables false
theorem shaped_any (l : List UInt8) (n : Int) (w : World) (hl : l.length ≤ 9223372036854775807) :
    Calls Tryz.prog 231 #[.string (str l), .int .i64 n] w fun e w' => e = .returned (.bool (G.shapedB l n)) ∧ w = w' := by
  have hs := str_size l
  go_enter Tryz.func231, Tryz.ntmps231
  go_wp2_with fail
  all_goals go_ret
  all_goals refine ⟨retB ?_, rfl⟩
  all_goals have hs := str_size l
  all_goals first | (symm; rw [Bool.eq_false_iff]; intro h; have := (G.shapedB_iff l n).1 h; omega) | (rw [Bool.eq_iff_iff, G.shapedB_iff, decide_eq_true_eq]; omega)
theorem nz_any (x : Int) (c : UInt8) (w : World) (hx : x = c.toNat) :
    Calls Tryz.prog 205 #[.int .u8 x] w fun e w' => e = .returned (.bool (!(c == 0))) ∧ w = w' := by
  subst hx
  have h := byte_bne0 c
  go_enter Tryz.func205, Tryz.ntmps205
  go_wp2_with fail
  go_ret
  refine ⟨retB ?_, rfl⟩
  by_cases h0 : c = 0
  · subst h0; rfl
  · simp [h0]
set_option maxRecDepth 100000 in
set_option maxHeartbeats 1000000 in
theorem indexNz_any (v : Value) (l : List UInt8) (w : World) (hv : Rd w v l) :
    Calls Tryz.prog 235 #[v, .func (.func 205) #[] #[]] w fun e w' => ∃ k : Int, e = .returned (.int .i64 k) ∧ (0 ≤ k ↔ G.zeroB l = false) ∧ -1 ≤ k ∧ w = w' := by
  obtain ⟨h0, a, cap, b, off, rfl, hcap, hcell⟩ := hv
  have HC := Lib.hid hcell; clear hcell
  go_enter Tryz.func235, Tryz.ntmps235
  go_wp2_with fail
  go_loop [5, 8] (fun _ vk => ∃ k : Nat, k ≤ l.length ∧ vk = .int .i64 k ∧ Hid (∀ i, i < k → G.ix l i = 0)) (fun _ vk => l.length - (intOf vk).toNat)
  case atStart => exact ⟨0, by omega, rfl, Lib.hid (fun i h => by omega)⟩
  case round =>
    obtain ⟨k, hk, rfl, hz⟩ := hrel
    by_cases hlt : k < l.length
    · obtain ⟨ha, hcp⟩ := HC.out k hlt
      have hix := run_idx (P := Tryz.prog) Tryz.underlying123 Tryz.sizeU8 (cap := cap) ha hlt _ rfl w
      have Ha := Lib.hid ha; clear ha
      by_cases hc : G.ix l k = 0
      · have hb : (!(G.ix l k == 0)) = false := by rw [hc]; rfl
        have Hc := Lib.hid hc; clear hc
        have Hb := Lib.hid hb; clear hb
        go_wp2_with (go_at_call 205; refine (nz_any _ (G.ix l k) _ rfl).mono ?_; rintro e w' ⟨rfl, rfl⟩; rw [Hb.out])
        go_round
        case rel =>
          refine ⟨k + 1, by omega, by go_num, Lib.hid fun i hi => ?_⟩
          by_cases e : i = k
          · rw [e]; exact Hc.out
          · exact hz.out i (by omega)
        case measure => simp [intOf]; omega
      · have hb : (!(G.ix l k == 0)) = true := by simp [hc]
        have Hc := Lib.hid hc; clear hc
        have Hb := Lib.hid hb; clear hb
        go_wp2_with (go_at_call 205; refine (nz_any _ (G.ix l k) _ rfl).mono ?_; rintro e w' ⟨rfl, rfl⟩; rw [Hb.out])
        go_ret
        refine ⟨_, rfl, ⟨fun _ => ?_, fun _ => by omega⟩, by omega, rfl⟩
        rw [Bool.eq_false_iff]
        intro h
        apply Hc.out
        have := (List.all_eq_true.1 h) (l[k]) (List.getElem_mem hlt)
        simpa [G.ix, hlt] using this
    · go_wp2_with fail
      go_ret
      refine ⟨_, rfl, ⟨fun h => by omega, fun h => ?_⟩, by omega, rfl⟩
      exfalso
      rw [Bool.eq_false_iff] at h
      apply h
      unfold G.zeroB
      rw [List.all_eq_true]
      intro x hx
      obtain ⟨i, hi, rfl⟩ := List.getElem_of_mem hx
      have := hz.out i (by omega)
      simpa [G.ix, hi] using this
theorem containsNz_any (v : Value) (l : List UInt8) (w : World) (hv : Rd w v l) :
    Calls Tryz.prog 204 #[v, .func (.func 205) #[] #[]] w fun e w' => e = .returned (.bool (!G.zeroB l)) ∧ w = w' := by
  go_enter Tryz.func204, Tryz.ntmps204
  go_wp2_with fail
  refine (indexNz_any v l _ hv).mono ?_
  rintro e w' ⟨k, rfl, hk, hk1, rfl⟩
  cases hz : G.zeroB l with
  | true =>
    have hk2 : ¬ 0 ≤ k := by
      intro h
      rw [hk.1 h] at hz; cases hz
    have hd : decide (0 ≤ k) = false := by simpa using hk2
    clear hk
    go_wp2_with fail
    go_ret
    exact ⟨retB (by rw [hz]; rfl), rfl⟩
  | false =>
    have hk2 : 0 ≤ k := hk.2 hz
    have hd : decide (0 ≤ k) = true := by simpa using hk2
    clear hk
    go_wp2_with fail
    go_ret
    exact ⟨retB (by rw [hz]; rfl), rfl⟩
theorem zero_any (v : Value) (l : List UInt8) (w : World) (hv : Rd w v l) :
    Calls Tryz.prog 157 #[v] w fun e w' => e = .returned (.bool (G.zeroB l)) ∧ w = w' := by
  go_enter Tryz.func157, Tryz.ntmps157
  go_wp2_with fail
  refine (containsNz_any v l _ hv).mono ?_
  rintro e w' ⟨rfl, rfl⟩
  go_wp2_with fail
  go_ret
  exact ⟨retB (by simp), rfl⟩
theorem clone_some (ad : Addr) (cap : Nat) (l : List UInt8) (w : World) (hv : Rd w (.slice (some ad) l.length cap) l) :
    Calls Tryz.prog 233 #[.slice (some ad) l.length cap] w fun e w' => ∃ v, e = .returned v ∧ w'.ownsRow w.heap.size 5 1 v l.length (bs l) ∧ Below w.heap.size w w' := by
  have hq := fun wx => Lib.run_eql_slice_nil (P := Tryz.prog) wx 123 5 (some ad) l.length cap 0 0 Tryz.underlying123
  have hl := hv.1
  have hoe : (w.alloc (.cells #[] 5)).ownsRow w.heap.size 5 1 (.slice (some ⟨w.heap.size, 0, none⟩) 0 0) 0 (bs []) := World.ownsRow_lit w #[] 0 (Nat.le_refl _) (by simp) (by simp)
  have hve : Rd (w.alloc (.cells #[] 5)) (.slice (some ad) l.length cap) l := hv.keep ((Below.refl _ _).alloc (Nat.le_refl _) _)
  have hbe : Below w.heap.size w (w.alloc (.cells #[] 5)) := (Below.refl _ _).alloc (Nat.le_refl _) _
  go_enter Tryz.func233, Tryz.ntmps233
  go_wp2_with (refine wpList_appB rfl _ _ rfl Tryz.underlying123 Tryz.infoU8 hoe rfl hve rfl (by omega) hbe.size ?_; intro v4 w4 hown4 hgr4 _)
  go_ret
  rw [List.nil_append, Nat.zero_add] at hown4
  exact ⟨_, rfl, hown4, hbe.grown hgr4 hbe.size (by simp [Value.ownBlock])⟩
def z16 : Array Value := (bs (List.replicate 16 0)).toArray
theorem zero_16 : ∀ w, (zeroValue 316).run Tryz.prog w = .ok (.agg z16) w := fun _ => by kernel_rfl
theorem syndromes_bad (l : List UInt8) (n : Int) (w : World) (hl : l.length ≤ 9223372036854775807) (h : G.shapedB l n = false) :
    Calls Tryz.prog 202 #[.string (str l), .int .i64 n] w fun e w' => e = .returned (.tuple #[.slice none 0 0, .int .i64 1]) ∧ w = w' := by
  have H := Lib.hid h; clear h
  go_enter Tryz.func202, Tryz.ntmps202
  go_wp2_with fail
  refine (shaped_any l n _ hl).mono ?_
  rintro e w' ⟨rfl, rfl⟩
  rw [H.out]
  go_wp2_with fail
  go_ret2
  exact ⟨rfl, rfl⟩
set_option maxRecDepth 100000 in
set_option maxHeartbeats 2000000 in
theorem syndromes_ok (l : List UInt8) (n : Nat) (w : World) (h : G.shapedB l n = true) :
    Calls Tryz.prog 202 #[.string (str l), .int .i64 n] w fun e w' => ∃ v, e = .returned (.tuple #[v, .int .i64 0]) ∧ w'.ownsRow w.heap.size 5 1 v n (bs (G.synd l n)) ∧ Below w.heap.size w w' := by
  obtain ⟨h1, h2, h3, h4, h5⟩ := (G.shapedB_iff l n).1 h
  have H := Lib.hid h; clear h
  have hz := zero_16
  go_enter Tryz.func202, Tryz.ntmps202
  go_wp2_with fail
  refine (shaped_any l n _ (by omega)).mono ?_
  rintro e w' ⟨rfl, rfl⟩
  rw [H.out]
  go_wp2_with fail
  have r0 : Row (w.alloc (.cells z16 316)) 316 w.heap.size 16 (List.replicate 16 0) := ⟨z16, (0, 0), heap_alloc_new w _, .inl rfl, by simp, by simp [z16, bs_length], by rw [z16, List.take_of_length_le (by simp [bs_length])]⟩
  have hb0 : Below w.heap.size w (w.alloc (.cells z16 316)) := (Below.refl _ _).alloc (Nat.le_refl _) _
  clear hz
  generalize w.alloc (.cells z16 316) = w1 at r0 hb0 ⊢
  go_loopw [7, 14] (fun vx vk wr => ∃ (k : Nat) (S : List UInt8), k ≤ n ∧ vk = .int .i64 k ∧ vx = B (G.exp k) ∧ Row wr 316 w.heap.size 16 S ∧ Hid (S.length = 16) ∧ Hid (∀ i, i < k → G.ix S i = G.eval l (G.exp i)) ∧ Below w.heap.size w wr) (fun _ vk _ => n - (intOf vk).toNat)
  case atStart => exact ⟨0, List.replicate 16 0, by omega, rfl, by rw [G.exp_zero]; rfl, r0, Lib.hid (by simp), Lib.hid (fun i hi => by omega), hb0⟩
  case round =>
    clear r0 hb0
    obtain ⟨k, S, hk, rfl, rfl, hr, HS, HI, hb⟩ := hrel
    by_cases hlt : k < n
    · have hk16 : k < 16 := by omega
      go_wp2_with (refine wpList_bytes rfl _ rfl Tryz.underlying9 Tryz.underlying123 Tryz.underlying5 rfl ?_; intro w2 cap hr2 hb2 hcap)
      have hr2' : Row w2 5 wr.heap.size cap l := hr2
      have hrd : Rd w2 (.slice (some ⟨wr.heap.size, 0, none⟩) (str l).size cap) l := by rw [str_size]; exact hr2'.rd (by omega)
      have hb' := hb.trans (hb2.mono hb.size)
      have hr' := hr.below hb2
      clear hr2 hr2'
      refine (eval_any _ l (G.exp k) _ hrd).mono ?_
      rintro e w3 ⟨rfl, hb3⟩
      have hb' := hb'.trans (hb3.mono hb'.size)
      have hr' := hr'.below hb3
      have hS := HS.out
      have hcs := hr'.cell k (by omega)
      have hfs := hr'.frozen k hk16
      have Hst : Hid (Row (w3.setCell ⟨w.heap.size, k, none⟩ (B (G.eval l (G.exp k)))) 316 w.heap.size 16 (S.set k (G.eval l (G.exp k)))) := Lib.hid (hr'.store k _ (by omega))
      clear hS
      have HE : Hid (G.mul (G.exp k) 2 = G.exp (k + 1)) := Lib.hid (by rw [G.exp_add, G.exp_one])
      go_wp2_with (go_at_call 201; refine (gmul_at _ _ (G.exp k) 2 _ rfl rfl).mono ?_; rintro e w' ⟨rfl, rfl⟩)
      go_roundw
      case rel =>
        refine ⟨k + 1, S.set k (G.eval l (G.exp k)), by omega, by go_num, by rw [HE.out], Hst.out, Lib.hid (by rw [List.length_set, HS.out]), Lib.hid fun i hi => ?_, hb'.setCell (Nat.le_refl _) _⟩
        have hS := HS.out
        by_cases e : i = k
        · subst e
          simp [G.ix, (by omega : i < S.length)]
        · have := HI.out i (by omega)
          unfold G.ix at this ⊢
          rw [List.getD_eq_getElem?_getD, List.getElem?_set_ne (by omega), ← List.getD_eq_getElem?_getD]
          exact this
      case measure => simp [intOf]; omega
    · obtain rfl : k = n := by omega
      have hS := HS.out
      have hT : (S.take k).length = k := by rw [List.length_take]; omega
      have hrd : Rd wr (.slice (some ⟨w.heap.size, 0, none⟩) (S.take k).length 16) (S.take k) := by
        refine ⟨by omega, _, 16, w.heap.size, 0, rfl, by omega, fun i hi => ⟨rfl, ?_⟩⟩
        rw [ix_take (by omega), Nat.zero_add]
        exact hr.cell i (by omega)
      have hk16 : k ≤ 16 := by omega
      have HT : Hid (S.take k = G.synd l k) := Lib.hid (by
        apply G.ext_ix
        · rw [hT, G.synd_length]
        · intro i hi
          rw [hT] at hi
          rw [ix_take hi, HI.out i hi, G.ix_synd l k i hi])
      have HT2 := Lib.hid hT; clear hT hS
      go_wp2_with fail
      rw [HT.out, G.synd_length] at hrd
      have hrd' : Rd wr (.slice (some ⟨w.heap.size, 0, none⟩) (G.synd l k).length 16) (G.synd l k) := by rw [G.synd_length]; exact hrd
      have hc := clone_some ⟨w.heap.size, 0, none⟩ 16 (G.synd l k) wr hrd'
      rw [G.synd_length] at hc
      refine hc.mono ?_
      rintro e w5 ⟨v, rfl, ho, hb5⟩
      go_wp2_with fail
      go_ret2
      exact ⟨_, rfl, own_mono ho hb.size, hb.trans (hb5.mono hb.size)⟩
theorem valid_any (l : List UInt8) (n : Int) (w : World) (hl : l.length ≤ 9223372036854775807) :
    Calls Tryz.prog 164 #[.string (str l), .int .i64 n] w fun e w' => e = .returned (.bool (G.validB l n)) ∧ Below w.heap.size w w' := by
  cases h : G.shapedB l n with
  | false =>
    have hv : G.validB l n = false := by simp [G.validB, h]
    have HV := Lib.hid hv; clear hv
    have H := Lib.hid h; clear h
    go_enter Tryz.func164, Tryz.ntmps164
    go_wp2_with fail
    refine (syndromes_bad l n _ hl H.out).mono ?_
    rintro e w' ⟨rfl, rfl⟩
    go_wp2_with fail
    go_ret
    exact ⟨retB HV.out.symm, Below.refl _ _⟩
  | true =>
    obtain ⟨h1, h2, h3, h4, h5⟩ := (G.shapedB_iff l n).1 h
    obtain ⟨m, rfl⟩ : ∃ m : Nat, n = m := ⟨n.toNat, by omega⟩
    have HV : Hid (G.validB l m = G.zeroB (G.synd l m)) := Lib.hid (by simp [G.validB, h])
    have H := Lib.hid h; clear h
    go_enter Tryz.func164, Tryz.ntmps164
    go_wp2_with fail
    refine (syndromes_ok l m _ H.out).mono ?_
    rintro e w1 ⟨v, rfl, ho, hb⟩
    have hrd := Rd.ofOwn' ho (by omega)
    go_wp2_with fail
    refine (zero_any v _ _ hrd).mono ?_
    rintro e w2 ⟨rfl, rfl⟩
    go_wp2_with fail
    go_ret
    exact ⟨retB (by rw [HV.out]), hb⟩
theorem gen_ne (n : Nat) : G.gen n ≠ [] := by
  have := G.gen_length n
  intro e; rw [e] at this; simp at this
theorem trim_gen (n : Nat) : trimL (G.gen n) = G.gen n := trimL_self _ (by rw [G.gen_head]; decide)
theorem str_append (l m : List UInt8) : str l ++ str m = str (l ++ m) := by
  apply ByteArray.ext
  simp [str]
set_option maxRecDepth 100000 in
set_option maxHeartbeats 2000000 in
theorem encode_ok (l : List UInt8) (n : Nat) (w : World) (hl : l ≠ []) (h1 : 1 ≤ n) (h2 : n ≤ 16) (h3 : l.length + n ≤ 255) :
    Calls Tryz.prog 85 #[.string (str l), .int .i64 n] w fun e w' => e = .returned (.tuple #[.string (str (G.enc l n)), .int .i64 0]) ∧ Below w.heap.size w w' := by
  have hs := str_size l
  have he : (str l).toList.isEmpty = false := by rw [str_toList]; simpa using hl
  have h3' : (l.length : Int) + n ≤ 255 := by omega
  have hd1 : decide ((n : Int) < 1) = false := by simp; omega
  have hd2 : decide (16 < (n : Int)) = false := by simp; omega
  have hd3 : decide (255 < (l.length : Int) + n) = false := by simp; omega
  have H := Lib.hid hl; clear hl
  go_enter Tryz.func85, Tryz.ntmps85
  go_wp2_with fail
  refine (generator_ok n _ (by omega)).mono ?_
  rintro e w1 ⟨vg, rfl, hg, hb1⟩
  have hrg := Rd.ofOwn' hg (by omega)
  clear hg
  have hb1s := hb1.size
  have hsz : (str l).data.toList.length = l.length := rfl
  go_wp2_with (first | (refine wpList_bytes rfl _ rfl Tryz.underlying9 Tryz.underlying123 Tryz.underlying5 rfl ?_; intro w2 cap hr2 hb2 hcap; have hr2' : Row w2 5 w1.heap.size cap l := hr2; have hB2 := hb1.trans (hb2.mono hb1s); have hb2s := hB2.size; clear hr2) | (refine wpList_appz rfl _ _ rfl Tryz.underlying123 Tryz.underlying3 Tryz.infoU8 hr2' rfl rfl n rfl (by omega) ?_; intro g3 cap3 w3 hr3 hgr3 hg3; have hB3 : Below w.heap.size w w3 := hB2.grown hgr3 hb2s (fun k hk => by obtain rfl := Option.some.inj hk; exact hb1s); have hrg3 : Rd w3 vg (G.gen n) := hrg.keepW (fun k hk => (hgr3.block k (Nat.lt_of_lt_of_le hk hb2.size) (by intro e; have := Option.some.inj e; omega)).trans (hb2.block k hk))))
  have hrd3 := hr3.rd (by rw [List.length_append, List.length_replicate]; omega)
  rw [List.length_append, List.length_replicate] at hrd3
  have hB3s := hB3.size
  clear hr3 hgr3 hg3 hB2 hr2' hb2 hrg hb1
  have hlen := G.gen_length n
  refine (remainder_ok _ vg _ (G.gen n) (G.gen n) _ hrd3 hrg3 (trim_gen n) (gen_ne n) (by rw [List.length_append, List.length_replicate]; omega) (by omega)).mono ?_
  rintro e w4 ⟨v4, rfl, hown4, hb4⟩
  clear hrd3 hrg3
  have hrl : (G.rem (l ++ List.replicate n 0) (G.gen n)).length = n := by rw [G.rem_length, hlen]; omega
  have hx4 : Rd w4 v4 (G.rem (l ++ List.replicate n 0) (G.gen n)) := Rd.ofOwn' hown4 (by omega)
  have hcx := run_str (P := Tryz.prog) Tryz.underlying123 Tryz.underlying5 Tryz.underlying9 hx4
  have hB4 := hB3.trans (hb4.mono hB3s)
  have hss : (str (G.rem (l ++ List.replicate n 0) (G.gen n))).size = n := by rw [str_size]; exact hrl
  clear hrl hown4 hb4
  go_wp2_with fail
  go_ret2
  refine ⟨?_, hB4⟩
  rw [str_append]
  rfl
end Go.Proofs.YtflmjdjkfognjaaGreat
