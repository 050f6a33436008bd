/- Parts: XCb XToc XTocOps XTocSess XTocStep XTocApp XQ XCrc -/
import Derived.Test.YtflmjdjkfognjaaGreatTe00
import Derived.Test.YtflmjdjkfognjaaGreatTe03
namespace Go.Proofs.YtflmjdjkfognjaaGreat.C9
open G
set_option linter.unusedVariables false
theorem ix_el {l : List UInt8} {i : Nat} (h : i < l.length) : ix l i = l[i] := by unfold ix; simp [h]
theorem ix_append_lt {a b : List UInt8} {i : Nat} (h : i < a.length) : ix (a ++ b) i = ix a i := by simp [ix, List.getElem?_append_left h]
theorem ix_append_ge {a b : List UInt8} {i : Nat} (h : a.length ≤ i) : ix (a ++ b) i = ix b (i - a.length) := by simp [ix, List.getElem?_append_right h]
def dat (d : List UInt8) (f : Nat) : List UInt8 := (d.drop (24 * f)).take 24
def wrd (d : List UInt8) (f : Nat) : List UInt8 := enc (dat d f) 4
def sym (d : List UInt8) (n g i : Nat) : UInt8 := if 4 * i ≤ g ∧ g - 4 * i < n then ix (wrd d (g - 4 * i)) i else 0
def rowK (d : List UInt8) (n g k : Nat) : List UInt8 := (List.range k).map (sym d n g)
def frm (d : List UInt8) (n g : Nat) : List UInt8 := enc (rowK d n g 28) 4
def frms (d : List UInt8) (n k : Nat) : List (List UInt8) := (List.range k).map (frm d n)
def encR (d : List UInt8) : List (List UInt8) × Int := if d.length = 0 ∨ d.length % 24 ≠ 0 then ([], 1) else if 784 < d.length / 24 then ([], 7) else (frms d (d.length / 24) (d.length / 24 + 108), 0)
theorem dat_length {d : List UInt8} {f n : Nat} (hd : d.length = 24 * n) (hf : f < n) : (dat d f).length = 24 := by
  unfold dat
  rw [List.length_take, List.length_drop]
  omega
theorem wrd_length {d : List UInt8} {f n : Nat} (hd : d.length = 24 * n) (hf : f < n) : (wrd d f).length = 28 := by
  unfold wrd
  rw [enc_length, dat_length hd hf]
theorem rowK_length (d : List UInt8) (n g k : Nat) : (rowK d n g k).length = k := by simp [rowK]
theorem ix_rowK (d : List UInt8) (n g k i : Nat) (h : i < k) : ix (rowK d n g k) i = sym d n g i := by simp [rowK, ix, h]
theorem frm_length (d : List UInt8) (n g : Nat) : (frm d n g).length = 32 := by unfold frm; rw [enc_length, rowK_length]
theorem frms_length (d : List UInt8) (n k : Nat) : (frms d n k).length = k := by simp [frms]
theorem frms_succ (d : List UInt8) (n k : Nat) : frms d n (k + 1) = frms d n k ++ [frm d n k] := by simp [frms, List.range_succ]
theorem frm_valid (d : List UInt8) (n g : Nat) : validB (frm d n g) 4 = true := by
  unfold frm
  exact enc_valid _ 4 (by
    have h := rowK_length d n g 28
    unfold encB
    have h2 : rowK d n g 28 ≠ [] := by intro e; rw [e] at h; simp at h
    simp [h2, h])
theorem wrd_valid {d : List UInt8} {f n : Nat} (hd : d.length = 24 * n) (hf : f < n) : validB (wrd d f) 4 = true := by
  unfold wrd
  exact enc_valid _ 4 (by
    have h := dat_length hd hf
    unfold encB
    have h2 : dat d f ≠ [] := by intro e; rw [e] at h; simp at h
    simp [h2, h])
def frA (F : List (List UInt8)) (g : Nat) : List UInt8 := (F[g]?).getD []
def got (F : List (List UInt8)) (g : Nat) : List UInt8 := (decode (frA F g) 4 []).1
def erD (F : List (List UInt8)) (f k : Nat) : List Int := ((List.range k).filter fun i => (got F (f + 4 * i)).isEmpty).map Int.ofNat
def wdD (F : List (List UInt8)) (f k : Nat) : List UInt8 := (List.range k).map fun i => ix (got F (f + 4 * i)) i
def upI (n : Nat) : List Int := (List.range n).map Int.ofNat
def lo24 (E : List Int) : List Int := E.filter fun i => decide (i < 24)
def outD (F : List (List UInt8)) (f : Nat) : List UInt8 × List Int :=
  if (erD F f 28).length ≤ 4 then if (decode (wdD F f 28) 4 (erD F f 28)).2.2 = 0 then ((decode (wdD F f 28) 4 (erD F f 28)).1.take 24, []) else (List.replicate 24 0, upI 24) else ((wdD F f 28).take 24, lo24 (erD F f 28))
def at24 (f : Nat) (E : List Int) : List Int := E.map fun i => 24 * (f : Int) + i
def datD (F : List (List UInt8)) : Nat → List UInt8
  | 0 => []
  | n + 1 => datD F n ++ (outD F n).1
def lstD (F : List (List UInt8)) : Nat → List Int
  | 0 => []
  | n + 1 => lstD F n ++ at24 n (outD F n).2
def okF (F : List (List UInt8)) : Bool := F.all fun x => x.length == 0 || x.length == 32
def decR (F : List (List UInt8)) : List UInt8 × List Int × Int :=
  if F.length < 109 ∨ 892 < F.length then ([], [], 1) else if okF F = false then ([], [], 1) else (datD F (F.length - 108), lstD F (F.length - 108), 0)
theorem got_length (F : List (List UInt8)) (g : Nat) : got F g = [] ∨ (got F g).length = (frA F g).length := by
  unfold got
  by_cases h : (decode (frA F g) 4 []).2.2 = 0
  · exact .inr (decode_sound _ _ _ h).choose_spec.2.1
  · exact .inl (decode_bad2 _ _ _ h).1
theorem erD_succ (F : List (List UInt8)) (f k : Nat) : erD F f (k + 1) = if (got F (f + 4 * k)).isEmpty = true then erD F f k ++ [(k : Int)] else erD F f k := by
  unfold erD
  rw [List.range_succ, List.filter_append, List.map_append]
  by_cases h : (got F (f + 4 * k)).isEmpty = true
  · rw [if_pos h]; simp [h]
  · rw [if_neg h]; simp [h]
theorem mem_erD (F : List (List UInt8)) (f k : Nat) (x : Int) : x ∈ erD F f k ↔ ∃ i : Nat, i < k ∧ (got F (f + 4 * i)).isEmpty = true ∧ x = i := by
  simp only [erD, List.mem_map, List.mem_filter, List.mem_range]
  constructor
  · rintro ⟨i, ⟨h1, h2⟩, rfl⟩; exact ⟨i, h1, h2, rfl⟩
  · rintro ⟨i, h1, h2, rfl⟩; exact ⟨i, ⟨h1, h2⟩, rfl⟩
theorem erD_length (F : List (List UInt8)) (f k : Nat) : (erD F f k).length ≤ k := by
  unfold erD
  rw [List.length_map]
  have := List.length_filter_le (fun i => (got F (f + 4 * i)).isEmpty) (List.range k)
  rwa [List.length_range] at this
theorem wdD_length (F : List (List UInt8)) (f k : Nat) : (wdD F f k).length = k := by simp [wdD]
theorem wdD_succ (F : List (List UInt8)) (f k : Nat) : wdD F f (k + 1) = wdD F f k ++ [ix (got F (f + 4 * k)) k] := by simp [wdD, List.range_succ]
theorem ix_wdD (F : List (List UInt8)) (f k i : Nat) (h : i < k) : ix (wdD F f k) i = ix (got F (f + 4 * i)) i := by simp [wdD, ix, h]
theorem erD_pw (F : List (List UInt8)) (f k : Nat) : (erD F f k).Pairwise (· < ·) := by
  unfold erD
  rw [List.pairwise_map]
  refine (List.Pairwise.filter _ List.pairwise_lt_range).imp ?_
  intro a b h
  show (a : Int) < b
  omega
theorem erD_pos (F : List (List UInt8)) (f : Nat) : posB 28 (erD F f 28) = true := posB_mk (fun x hx => by
  obtain ⟨i, h1, _, rfl⟩ := (mem_erD F f 28 x).1 hx
  omega) (erD_pw F f 28)
theorem outD_length (F : List (List UInt8)) (f : Nat) : (outD F f).1.length = 24 := by
  unfold outD
  split
  · split
    · next h =>
      obtain ⟨m, _, h2, _⟩ := decode_sound _ _ _ h
      rw [List.length_take, h2, wdD_length]
      rfl
    · simp
  · rw [List.length_take, wdD_length]
    rfl
theorem outD_few (F : List (List UInt8)) (f : Nat) : (outD F f).2.length ≤ 28 := by
  unfold outD
  split
  · split
    · simp
    · simp [upI]
  · have h1 := List.length_filter_le (fun i => decide (i < 24)) (erD F f 28)
    have h2 := erD_length F f 28
    show (lo24 (erD F f 28)).length ≤ 28
    unfold lo24
    omega
theorem datD_length (F : List (List UInt8)) : ∀ n, (datD F n).length = 24 * n
  | 0 => rfl
  | n + 1 => by
    show (datD F n ++ (outD F n).1).length = _
    rw [List.length_append, datD_length F n, outD_length]
    omega
theorem lstD_length (F : List (List UInt8)) : ∀ n, (lstD F n).length ≤ 28 * n
  | 0 => by simp [lstD]
  | n + 1 => by
    have h1 := lstD_length F n
    have h2 := outD_few F n
    show (lstD F n ++ at24 n (outD F n).2).length ≤ _
    rw [List.length_append]
    unfold at24
    rw [List.length_map]
    omega
theorem outD_bd (F : List (List UInt8)) (f : Nat) : ∀ x ∈ (outD F f).2, 0 ≤ x ∧ x < 24 := by
  intro x hx
  unfold outD at hx
  split at hx
  · split at hx
    · simp at hx
    · simp only [upI, List.mem_map, List.mem_range] at hx
      obtain ⟨i, h1, rfl⟩ := hx
      show (0 : Int) ≤ (i : Int) ∧ (i : Int) < 24
      omega
  · simp only [lo24, List.mem_filter, decide_eq_true_eq] at hx
    obtain ⟨i, _, _, rfl⟩ := (mem_erD F f 28 x).1 hx.1
    omega
theorem lstD_bd (F : List (List UInt8)) : ∀ n, ∀ x ∈ lstD F n, 0 ≤ x ∧ x < 24 * (n : Int)
  | 0 => by simp [lstD]
  | n + 1 => by
    intro x hx
    have hx' : x ∈ lstD F n ++ at24 n (outD F n).2 := hx
    rw [List.mem_append] at hx'
    rcases hx' with h | h
    · have := lstD_bd F n x h; omega
    · simp only [at24, List.mem_map] at h
      obtain ⟨y, hy, rfl⟩ := h
      have := outD_bd F n y hy
      omega
def Near2 (d : List UInt8) (n : Nat) (l : List Sc) (F : List (List UInt8)) : Prop :=
  F.length = n + 108 ∧ ∀ g, g < n + 108 → if gon l g = true then frA F g = [] else (frA F g).length = 32 ∧ othN (frA F g) (frm d n g) [] 32 ≤ 2
theorem posB_nil (n : Nat) : posB n [] = true := by simp [posB, posN]
theorem decode_nil (n : Int) (l : List Int) : (decode [] n l).1 = [] := by
  unfold decode
  rw [if_pos (by simp [shapedB])]
theorem got_near {d : List UInt8} {n : Nat} {l : List Sc} {F : List (List UInt8)} (h : Near2 d n l F) {g : Nat} (hg : g < n + 108) : got F g = if gon l g = true then [] else frm d n g := by
  have h1 := h.2 g hg
  unfold got
  by_cases hc : gon l g = true
  · rw [if_pos hc] at h1
    rw [if_pos hc, h1]
    exact decode_nil _ _
  · rw [if_neg hc] at h1
    rw [if_neg hc]
    have := decode_spec (frA F g) (frm d n g) 4 [] (by rw [h1.1, frm_length]) (frm_valid d n g) (posB_nil _) (by rw [h1.1]; simp; omega)
    rw [show ((4 : Int)) = ((4 : Nat) : Int) from rfl, this]
theorem frm_ne (d : List UInt8) (n g : Nat) : (frm d n g).isEmpty = false := by
  have h := frm_length d n g
  cases e : frm d n g with
  | nil => rw [e] at h; simp at h
  | cons a b => rfl
theorem erD_near {d : List UInt8} {n : Nat} {l : List Sc} {F : List (List UInt8)} (h : Near2 d n l F) {f : Nat} (hf : f < n) : erD F f 28 = ers l f := by
  unfold erD ers ersK
  congr 1
  refine List.filter_congr fun i hi => ?_
  rw [List.mem_range] at hi
  rw [got_near h (by omega)]
  cases gon l (f + 4 * i) with
  | false => simp [frm_ne]
  | true => simp
theorem ix_enc (a : List UInt8) (n i : Nat) (h : i < a.length) : ix (enc a n) i = ix a i := by unfold enc; exact ix_append_lt h
theorem ix_frm {d : List UInt8} {n f i : Nat} (hf : f < n) (hi : i < 28) : ix (frm d n (f + 4 * i)) i = ix (wrd d f) i := by
  unfold frm
  rw [ix_enc _ _ _ (by rw [rowK_length]; exact hi), ix_rowK _ _ _ _ _ hi]
  unfold sym
  rw [if_pos ⟨by omega, by omega⟩, Nat.add_sub_cancel]
theorem wdD_near {d : List UInt8} {n : Nat} {l : List Sc} {F : List (List UInt8)} (h : Near2 d n l F) {f : Nat} (hf : f < n) (i : Nat) (hi : i < 28) : ix (wdD F f 28) i = if gon l (f + 4 * i) = true then 0 else ix (wrd d f) i := by
  rw [ix_wdD _ _ _ _ hi, got_near h (by omega)]
  split
  · rfl
  · exact ix_frm hf hi
theorem oth_zero (a b : List UInt8) (l : List Int) : ∀ k : Nat, (∀ i : Nat, i < k → (i : Int) ∉ l → ix a i = ix b i) → othN a b l k = 0
  | 0, _ => rfl
  | k + 1, h => by
    rw [othN, oth_zero a b l k (fun i hi => h i (by omega))]
    by_cases hk : (k : Int) ∈ l
    · have : cont l (k : Int) = true := (cont_iff l _).2 hk
      rw [this]; simp
    · rw [h k (by omega) hk]; simp
theorem outD_near {d : List UInt8} {n : Nat} {l : List Sc} {F : List (List UInt8)} (hd : d.length = 24 * n) (h : Near2 d n l F) {f : Nat} (hf : f < n) :
    (outD F f).1 = (List.range 24).map (fun i => if (4 < (ers l f).length ∧ gon l (f + 4 * i) = true) then 0 else ix (dat d f) i) ∧ at24 f (outD F f).2 = ls (ers l f) f := by
  have hw := wrd_length hd hf
  have hdl := dat_length hd hf
  have htake : ∀ i, i < 24 → ix (wrd d f) i = ix (dat d f) i := fun i hi => by
    unfold wrd
    exact ix_enc _ _ _ (by rw [hdl]; exact hi)
  unfold outD
  rw [erD_near h hf]
  by_cases h4 : (ers l f).length ≤ 4
  · rw [if_pos h4]
    have hdec := decode_spec (wdD F f 28) (wrd d f) 4 (ers l f) (by rw [wdD_length, hw]) (wrd_valid hd hf) (by rw [wdD_length, ← erD_near h hf]; exact erD_pos F f) (by
      rw [wdD_length, oth_zero]
      · omega
      · intro i hi hm
        rw [wdD_near h hf i hi, if_neg]
        intro hg
        exact hm ((mem_ersK l f 28 i).2 ⟨i, hi, hg, rfl⟩))
    rw [show ((4 : Int)) = ((4 : Nat) : Int) from rfl, hdec, if_pos rfl]
    refine ⟨?_, ?_⟩
    · apply List.ext_getElem
      · rw [List.length_take, hw]; simp
      · intro i h1 h2
        rw [List.length_take, hw] at h1
        have h3 := htake i (by omega)
        rw [List.getElem_take, List.getElem_map, List.getElem_range, if_neg (by omega), ← h3, ix_el (by omega)]
    · unfold ls lsK
      rw [if_pos h4]
      rfl
  · rw [if_neg h4]
    refine ⟨?_, ?_⟩
    · apply List.ext_getElem
      · rw [List.length_take, wdD_length]; simp
      · intro i h1 h2
        rw [List.length_take, wdD_length] at h1
        have h3 := wdD_near h hf i (by omega)
        rw [List.getElem_take, List.getElem_map, List.getElem_range]
        have h5 : (wdD F f 28)[i]'(by rw [wdD_length]; omega) = ix (wdD F f 28) i := (ix_el _).symm
        rw [h5, h3]
        by_cases hg : gon l (f + 4 * i) = true
        · rw [if_pos hg, if_pos ⟨by omega, hg⟩]
        · rw [if_neg hg, if_neg (fun hh => hg hh.2)]
          exact htake i (by omega)
    · unfold ls lsK
      rw [if_neg h4, List.take_length]
      rfl
theorem lstD_near {d : List UInt8} {n : Nat} {l : List Sc} {F : List (List UInt8)} (hd : d.length = 24 * n) (h : Near2 d n l F) : ∀ m, m ≤ n → lstD F m = lostN l m
  | 0, _ => rfl
  | m + 1, hm => by
    show lstD F m ++ at24 m (outD F m).2 = lostN l m ++ ls (ers l m) m
    rw [lstD_near hd h m (by omega), (outD_near hd h (by omega)).2]
theorem ix_dat (d : List UInt8) (f i : Nat) (h : i < 24) : ix (dat d f) i = ix d (24 * f + i) := by
  simp [dat, ix, h]
theorem datD_near {d : List UInt8} {n : Nat} {l : List Sc} {F : List (List UInt8)} (hd : d.length = 24 * n) (h : Near2 d n l F) : ∀ m, m ≤ n → ∀ i, i < 24 * m → ix (datD F m) i = if (i : Int) ∈ lostN l n then 0 else ix d i
  | 0, _, i, hi => by omega
  | m + 1, hm, i, hi => by
    have hL := datD_length F m
    show ix (datD F m ++ (outD F m).1) i = _
    by_cases hlt : i < 24 * m
    · rw [ix_append_lt (by omega)]
      exact datD_near hd h m (by omega) i hlt
    · rw [ix_append_ge (by omega), hL, (outD_near hd h (by omega)).1]
      obtain ⟨j, rfl⟩ : ∃ j, i = 24 * m + j := ⟨i - 24 * m, by omega⟩
      have hj : j < 24 := by omega
      have e : ix ((List.range 24).map (fun i => if (4 < (ers l m).length ∧ gon l (m + 4 * i) = true) then (0 : UInt8) else ix (dat d m) i)) (24 * m + j - 24 * m) = if (4 < (ers l m).length ∧ gon l (m + 4 * j) = true) then (0 : UInt8) else ix (dat d m) j := by
        rw [Nat.add_sub_cancel_left]
        unfold ix
        simp [hj]
      rw [e, ix_dat _ _ _ hj]
      by_cases hc : 4 < (ers l m).length ∧ gon l (m + 4 * j) = true
      · rw [if_pos hc, if_pos ((mem_lostN l _ n).2 ⟨m, j, by omega, hj, hc.2, by omega, hc.1⟩)]
      · rw [if_neg hc, if_neg]
        intro hx
        obtain ⟨f, k, h1, h2, h3, h4, h5⟩ := (mem_lostN l _ n).1 hx
        obtain rfl : f = m := by omega
        obtain rfl : k = j := by omega
        exact hc ⟨h5, h3⟩
theorem okF_near {d : List UInt8} {n : Nat} {l : List Sc} {F : List (List UInt8)} (h : Near2 d n l F) : okF F = true := by
  unfold okF
  rw [List.all_eq_true]
  intro x hx
  obtain ⟨g, hg, rfl⟩ := List.getElem_of_mem hx
  have h1 := h.2 g (by rw [← h.1]; exact hg)
  have e : frA F g = F[g] := by unfold frA; rw [List.getElem?_eq_getElem hg]; rfl
  rw [e] at h1
  split at h1
  · simp [h1]
  · simp [h1.1]
theorem decR_near {d : List UInt8} {n : Nat} {l : List Sc} {F : List (List UInt8)} (hn : 1 ≤ n) (hn2 : n ≤ 784) (hd : d.length = 24 * n) (h : Near2 d n l F) :
    ∃ s, decR F = (s, lostN l n, 0) ∧ s.length = d.length ∧ ∀ i, i < d.length → ix s i = if (i : Int) ∈ lostN l n then 0 else ix d i := by
  unfold decR
  rw [h.1, if_neg (by omega), okF_near h, if_neg (by decide), Nat.add_sub_cancel, lstD_near hd h n (Nat.le_refl _)]
  exact ⟨_, rfl, by rw [datD_length, hd], fun i hi => datD_near hd h n (Nat.le_refl _) i (by omega)⟩
theorem list_ext {a b : List UInt8} (h : a.length = b.length) (h2 : ∀ i, i < b.length → ix a i = ix b i) : a = b := by
  apply List.ext_getElem h
  intro i h3 h4
  have := h2 i h4
  rwa [ix_el h3, ix_el h4] at this
theorem decR_none {d : List UInt8} {n : Nat} {l : List Sc} {F : List (List UInt8)} (hn : 1 ≤ n) (hn2 : n ≤ 784) (hd : d.length = 24 * n) (h : Near2 d n l F) (hl : lostN l n = []) : decR F = (d, [], 0) := by
  obtain ⟨s, h1, h2, h3⟩ := decR_near hn hn2 hd h
  rw [h1, hl]
  have : s = d := list_ext h2 fun i hi => by rw [h3 i hi, hl, if_neg (by simp)]
  rw [this]
def scrF (F : List (List UInt8)) (l : List Sc) : List (List UInt8) := (List.range F.length).map fun g => if gon l g = true then [] else frA F g
theorem scrF_length (F : List (List UInt8)) (l : List Sc) : (scrF F l).length = F.length := by simp [scrF]
theorem frA_scrF (F : List (List UInt8)) (l : List Sc) {g : Nat} (hg : g < F.length) : frA (scrF F l) g = if gon l g = true then [] else frA F g := by simp [frA, scrF, hg]
theorem frA_frms (d : List UInt8) (n k g : Nat) (h : g < k) : frA (frms d n k) g = frm d n g := by simp [frA, frms, h]
theorem oth_self (a : List UInt8) (l : List Int) (k : Nat) : othN a a l k = 0 := oth_zero a a l k fun _ _ _ => rfl
theorem near_scr (d : List UInt8) (n : Nat) (l : List Sc) : Near2 d n l (scrF (frms d n (n + 108)) l) := by
  refine ⟨by rw [scrF_length, frms_length], fun g hg => ?_⟩
  rw [frA_scrF _ _ (by rw [frms_length]; exact hg), frA_frms _ _ _ _ hg]
  split
  · rfl
  · exact ⟨frm_length _ _ _, by rw [oth_self]; omega⟩
end Go.Proofs.YtflmjdjkfognjaaGreat.C9
namespace Go.Proofs.YtflmjdjkfognjaaGreat.T
set_option linter.unusedVariables false
structure Trk where
  num : Int
  ses : Int
  st : Int
  len : Int
  nx : Int
  sta : Int
  pk : Int
def z : Trk := ⟨0, 0, 0, 0, 0, 0, 0⟩
def tr (l : List Trk) (i : Nat) : Trk := (l[i]?).getD z
def eB (l : List Trk) (i : Nat) : Int := if i = 0 then 0 else (tr l (i - 1)).st + (tr l (i - 1)).len
def sB (l : List Trk) (i : Nat) : Int := if i = 0 then 1 else (tr l (i - 1)).ses
def okR (cap cl : Int) (l : List Trk) (i : Nat) : Prop :=
  (tr l i).num = i + 1 ∧ (tr l i).ses = (if 0 < i ∧ (tr l i).ses = sB l i + 1 then sB l i + 1 else sB l i) ∧ (tr l i).ses ≤ cl + 1 ∧ (tr l i).ses ≤ 16 ∧
  (tr l i).st = (if 0 < i ∧ (tr l i).ses = sB l i + 1 then eB l i + 16 else eB l i) ∧ 1 ≤ (tr l i).len ∧ (tr l i).len ≤ cap - (tr l i).st ∧
  0 ≤ (tr l i).pk ∧ (tr l i).pk ≤ 1024 ∧ (tr l i).st ≤ (tr l i).nx ∧ (tr l i).nx ≤ (tr l i).st + (tr l i).len ∧
  (0 < (tr l i).pk → (tr l i).len.tmod (tr l i).pk = 0 ∧ ((tr l i).nx - (tr l i).st).tmod (tr l i).pk = 0) ∧
  ((tr l i).sta = 2 ∧ (tr l i).nx = (tr l i).st + (tr l i).len ∨ (tr l i).sta = 0 ∧ (tr l i).nx = (tr l i).st ∨ (tr l i).sta = 1 ∧ (tr l i).nx ≠ (tr l i).st) ∧
  ((tr l i).ses ≤ cl → (tr l i).sta = 2)
def okI (cap cl : Int) (fin : Bool) (l : List Trk) (i : Nat) : Prop :=
  (tr l i).num = i + 1 ∧ (i = 0 → (tr l i).ses = 1) ∧ (0 < i → (tr l i).ses - sB l i = 0 ∨ (tr l i).ses - sB l i = 1) ∧
  (tr l i).ses ≤ cl + 1 ∧ (tr l i).ses ≤ 16 ∧ (cl < (tr l i).ses ∨ (tr l i).sta = 2) ∧ (fin = true → (tr l i).ses ≤ cl) ∧
  (tr l i).st = (if i = 0 then 0 else if sB l i < (tr l i).ses then eB l i + 16 else eB l i) ∧
  1 ≤ (tr l i).len ∧ (tr l i).len ≤ cap ∧ (tr l i).st ≤ cap - (tr l i).len ∧
  ((tr l i).pk = 0 ∨ 1 ≤ (tr l i).pk ∧ (tr l i).pk ≤ 1024 ∧ (tr l i).len.tmod (tr l i).pk = 0 ∧ ((tr l i).nx - (tr l i).st).tmod (tr l i).pk = 0) ∧
  ((tr l i).sta = 2 → (tr l i).nx = (tr l i).st + (tr l i).len) ∧
  ((tr l i).sta ≠ 2 → (tr l i).st ≤ (tr l i).nx ∧ (tr l i).nx ≤ (tr l i).st + (tr l i).len ∧ (tr l i).sta = if (tr l i).nx = (tr l i).st then 0 else 1)
theorem eB_succ (l : List Trk) (i : Nat) : eB l (i + 1) = (tr l i).st + (tr l i).len := by unfold eB; rw [if_neg (by omega)]; rfl
theorem sB_succ (l : List Trk) (i : Nat) : sB l (i + 1) = (tr l i).ses := by unfold sB; rw [if_neg (by omega)]; rfl
theorem eB_zero (l : List Trk) : eB l 0 = 0 := rfl
theorem okR.next {cap cl : Int} {l : List Trk} {i : Nat} (h : okR cap cl l i) : eB l i < eB l (i + 1) ∧ sB l i ≤ sB l (i + 1) ∧ sB l (i + 1) ≤ sB l i + 1 := by
  obtain ⟨_, g2, _, _, g5, g6, _⟩ := h
  rw [eB_succ, sB_succ]
  split at g2 <;> split at g5 <;> omega
theorem okI.next {cap cl : Int} {fin : Bool} {l : List Trk} {i : Nat} (h0 : 0 ≤ eB l i) (h : okI cap cl fin l i) : 0 ≤ eB l (i + 1) := by
  obtain ⟨_, _, _, _, _, _, _, g8, g9, _⟩ := h
  rw [eB_succ]
  split at g8
  · omega
  · split at g8 <;> omega
theorem okR.ends {cap cl : Int} {l : List Trk} {n : Nat} (h : ∀ i, i < n → okR cap cl l i) : ∀ i, i ≤ n → 0 ≤ eB l i
  | 0, _ => by rw [eB_zero]; omega
  | i + 1, hi => by
    have h1 := okR.ends h i (by omega)
    have h2 := (h i (by omega)).next
    omega
theorem okI.ends {cap cl : Int} {fin : Bool} {l : List Trk} {n : Nat} (h : ∀ i, i < n → okI cap cl fin l i) : ∀ i, i ≤ n → 0 ≤ eB l i
  | 0, _ => by rw [eB_zero]; omega
  | i + 1, hi => okI.next (okI.ends h i (by omega)) (h i (by omega))
theorem okR.mono {cap cl : Int} {l : List Trk} {n : Nat} (h : ∀ i, i < n → okR cap cl l i) (i : Nat) : ∀ d, i + d ≤ n → sB l i ≤ sB l (i + d)
  | 0, _ => by rw [Nat.add_zero]; omega
  | d + 1, hd => by
    have h1 := okR.mono h i d (by omega)
    have h2 := (h (i + d) (by omega)).next
    have e : i + (d + 1) = i + d + 1 := by omega
    rw [e]; omega
def validR (cap cl : Int) (fin : Bool) (l : List Trk) : Prop :=
  1 ≤ cap ∧ cap ≤ 449849 ∧ l.length ≤ 99 ∧ 0 ≤ cl ∧ cl ≤ 16 ∧ (∀ i, i < l.length → okR cap cl l i) ∧ cl ≤ (if 0 < l.length then sB l l.length else 0) ∧
  (fin = true → 1 ≤ cl ∧ (if 0 < l.length then sB l l.length else 0) = cl)
end Go.Proofs.YtflmjdjkfognjaaGreat.T
namespace Go.Proofs.YtflmjdjkfognjaaGreat.T
set_option linter.unusedVariables false
def stN (cl : Int) (l : List Trk) : Int := if l.length = 0 then 0 else if sB l l.length ≤ cl then eB l l.length + 16 else eB l l.length
end Go.Proofs.YtflmjdjkfognjaaGreat.T
namespace Go.Proofs.YtflmjdjkfognjaaGreat.T
set_option linter.unusedVariables false
end Go.Proofs.YtflmjdjkfognjaaGreat.T
namespace Go.Proofs.YtflmjdjkfognjaaGreat.T
set_option linter.unusedVariables false
end Go.Proofs.YtflmjdjkfognjaaGreat.T
namespace Go.Proofs.YtflmjdjkfognjaaGreat.T
set_option linter.unusedVariables false
section
variable {cap cl : Int} {l : List Trk} {n : Nat}
theorem ends_mono (h : ∀ i, i < n → okR cap cl l i) (i : Nat) : ∀ d, i + d ≤ n → eB l i ≤ eB l (i + d)
  | 0, _ => by rw [Nat.add_zero]; omega
  | d + 1, hd => by
    have h1 := ends_mono h i d (by omega)
    have h2 := (h (i + d) (by omega)).next
    have e : i + (d + 1) = i + d + 1 := by omega
    rw [e]; omega
theorem okR.from {i : Nat} (h : okR cap cl l i) : eB l i ≤ (tr l i).st := by
  obtain ⟨_, _, _, _, g5, _⟩ := h
  split at g5 <;> omega
theorem apart (h : ∀ i, i < n → okR cap cl l i) {i j : Nat} (hij : i < j) (hj : j < n) : (tr l i).st + (tr l i).len ≤ (tr l j).st := by
  have h1 := ends_mono h (i + 1) (j - (i + 1)) (by omega)
  have e : i + 1 + (j - (i + 1)) = j := by omega
  rw [e, eB_succ] at h1
  have h2 := (h j hj).from
  omega
theorem only (h : ∀ i, i < n → okR cap cl l i) {i j : Nat} (hi : i < n) (hj : j < n) {k : Int} (h1 : (tr l i).st ≤ k) (h2 : k < (tr l i).st + (tr l i).len) (h3 : (tr l j).st ≤ k) (h4 : k < (tr l j).st + (tr l j).len) : i = j := by
  rcases Nat.lt_trichotomy i j with g | g | g
  · have := apart h g hj; omega
  · exact g
  · have := apart h g hi; omega
end
section
variable {cap cl : Int} {fin : Bool} {l : List Trk}
theorem validR.at (hv : validR cap cl fin l) {i : Nat} (hi : i < l.length) : (tr l i).num = i + 1 ∧ 0 ≤ (tr l i).st ∧ (tr l i).st + (tr l i).len ≤ cap ∧ (tr l i).st ≤ (tr l i).nx ∧ (tr l i).nx ≤ (tr l i).st + (tr l i).len := by
  have ho := hv.2.2.2.2.2.1 i hi
  have h1 := ho.from
  have h2 := okR.ends hv.2.2.2.2.2.1 i (by omega)
  obtain ⟨o1, o2, o3, o4, o5, o6, o7, o8, o9, o10, o11, o12, o13, o14⟩ := ho
  exact ⟨o1, by omega, by omega, o10, o11⟩
end
end Go.Proofs.YtflmjdjkfognjaaGreat.T
namespace Go.Proofs.YtflmjdjkfognjaaGreat.Q
open T (Trk tr eB)
set_option linter.unusedVariables false
structure Fr where
  ctl : Int
  trk : Int
  pt : Int
  rm : Int
  rs : Int
  rf : Int
  am : Int
  as : Int
  af : Int
  deriving DecidableEq
def z : Fr := ⟨0, 0, 0, 0, 0, 0, 0, 0, 0⟩
def mM (n : Int) : Int := n / 4500
def mS (n : Int) : Int := n / 75 % 60
def mF (n : Int) : Int := n % 75
def okS (l : List Trk) (i : Nat) : Prop :=
  1 ≤ (tr l i).num ∧ (tr l i).num ≤ 99 ∧ (0 < i → (tr l i).num = (tr l (i - 1)).num + 1) ∧ eB l i ≤ (tr l i).st ∧ (tr l i).st ≤ 449849 ∧ 1 ≤ (tr l i).len ∧ (tr l i).len ≤ 449849 - (tr l i).st
instance (l : List Trk) (i : Nat) : Decidable (okS l i) := by unfold okS; infer_instance
def Sess (l : List Trk) : Prop := 1 ≤ l.length ∧ l.length ≤ 99 ∧ ∀ i, i < l.length → okS l i
instance (l : List Trk) : Decidable (Sess l) := by unfold Sess; infer_instance
def en (l : List Trk) (i : Nat) : Int := (tr l i).st + (tr l i).len
def endL (l : List Trk) : Int := en l (l.length - 1)
theorem okS.ends {l : List Trk} {n : Nat} (h : ∀ i, i < n → okS l i) : ∀ i, i ≤ n → 0 ≤ eB l i ∧ eB l i ≤ 449849
  | 0, _ => by rw [T.eB_zero]; omega
  | i + 1, hi => by
    obtain ⟨h0, _⟩ := okS.ends h i (by omega)
    obtain ⟨_, _, _, h4, h5, h6, h7⟩ := h i (by omega)
    rw [T.eB_succ]; omega
theorem Sess.at {l : List Trk} (h : Sess l) {i : Nat} (hi : i < l.length) : 1 ≤ (tr l i).num ∧ (tr l i).num ≤ 99 ∧ 0 ≤ (tr l i).st ∧ (tr l i).st ≤ 449848 ∧ 1 ≤ (tr l i).len ∧ (tr l i).st + (tr l i).len ≤ 449849 := by
  obtain ⟨h1, h2, _, h4, h5, h6, h7⟩ := h.2.2 i hi
  have := okS.ends h.2.2 i (by omega)
  omega
theorem Sess.mono {l : List Trk} (h : Sess l) (i : Nat) : ∀ d, i + d < l.length → (tr l (i + d)).num = (tr l i).num + d ∧ (0 < d → en l i ≤ (tr l (i + d)).st)
  | 0, _ => by rw [Nat.add_zero]; exact ⟨by simp, fun h => by omega⟩
  | d + 1, hd => by
    obtain ⟨h1, h2⟩ := Sess.mono h i d (by omega)
    obtain ⟨_, _, g3, g4, _⟩ := h.2.2 (i + d + 1) (by omega)
    obtain ⟨_, _, _, _, _, g6, _⟩ := h.2.2 (i + d) (by omega)
    rw [T.eB_succ] at g4
    have g3' := g3 (by omega)
    rw [Nat.add_sub_cancel] at g3'
    have e : i + (d + 1) = i + d + 1 := by omega
    rw [e, g3', h1]
    refine ⟨by omega, fun _ => ?_⟩
    by_cases h0 : d = 0
    · subst h0; unfold en; simp only [Nat.add_zero] at *; omega
    · have := h2 (by omega); omega
theorem Sess.ends {l : List Trk} (h : Sess l) {i : Nat} (hi : i < l.length) : en l i ≤ endL l := by
  unfold endL
  by_cases e : i = l.length - 1
  · rw [← e]; omega
  · have h1 := (h.mono i (l.length - 1 - i) (by omega)).2 (by omega)
    have e2 : i + (l.length - 1 - i) = l.length - 1 := by omega
    rw [e2] at h1
    have := (h.at (i := l.length - 1) (by omega))
    unfold en at h1 ⊢; omega
end Go.Proofs.YtflmjdjkfognjaaGreat.Q
namespace Go.Proofs.YtflmjdjkfognjaaGreat.C
set_option linter.unusedVariables false
def st1 (n : Nat) : Nat := if n / 32768 = 1 then (n % 32768 * 2) ^^^ 4129 else n % 32768 * 2
def stN : Nat → Nat → Nat
  | 0, n => n
  | k + 1, n => st1 (stN k n)
def st8 (n : Nat) : Nat := stN 8 n
def reg (c : Nat) (b : UInt8) : Nat := st8 (c ^^^ b.toNat * 256)
def crc (c : Nat) (s : List UInt8) : Nat := s.foldl reg c
end Go.Proofs.YtflmjdjkfognjaaGreat.C
