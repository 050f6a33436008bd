/- Shaken out of XCb XTocLead -/
import Derived.Test.YtflmjdjkfognjaaGreatTp05
import Derived.Test.YtflmjdjkfognjaaGreatTp01
namespace Go.Proofs.YtflmjdjkfognjaaGreat.C9
open G
set_option linter.unusedVariables false
theorem ix_el {l : List UInt8} {i : Nat} (h : i < l.length) : ix l i = l[i] := by unfold ix; simp [h]
theorem ix_append_lt {a b : List UInt8} {i : Nat} (h : i < a.length) : ix (a ++ b) i = ix a i := by simp [ix, List.getElem?_append_left h]
theorem ix_append_ge {a b : List UInt8} {i : Nat} (h : a.length ≤ i) : ix (a ++ b) i = ix b (i - a.length) := by simp [ix, List.getElem?_append_right h]
/-- the data frame 'f', its C2 word, a symbol of the channel frame 'g' of 'n' data frames, and the channel frame -/
def dat (d : List UInt8) (f : Nat) : List UInt8 := (d.drop (24 * f)).take 24
def wrd (d : List UInt8) (f : Nat) : List UInt8 := enc (dat d f) 4
def sym (d : List UInt8) (n g i : Nat) : UInt8 := if 4 * i ≤ g ∧ g - 4 * i < n then ix (wrd d (g - 4 * i)) i else 0
def rowK (d : List UInt8) (n g k : Nat) : List UInt8 := (List.range k).map (sym d n g)
def frm (d : List UInt8) (n g : Nat) : List UInt8 := enc (rowK d n g 28) 4
def frms (d : List UInt8) (n k : Nat) : List (List UInt8) := (List.range k).map (frm d n)
def encR (d : List UInt8) : List (List UInt8) × Int := if d.length = 0 ∨ d.length % 24 ≠ 0 then ([], 1) else if 784 < d.length / 24 then ([], 7) else (frms d (d.length / 24) (d.length / 24 + 108), 0)
theorem dat_length {d : List UInt8} {f n : Nat} (hd : d.length = 24 * n) (hf : f < n) : (dat d f).length = 24 := by
  unfold dat
  rw [List.length_take, List.length_drop]
  omega
theorem wrd_length {d : List UInt8} {f n : Nat} (hd : d.length = 24 * n) (hf : f < n) : (wrd d f).length = 28 := by
  unfold wrd
  rw [enc_length, dat_length hd hf]
theorem rowK_length (d : List UInt8) (n g k : Nat) : (rowK d n g k).length = k := by simp [rowK]
theorem ix_rowK (d : List UInt8) (n g k i : Nat) (h : i < k) : ix (rowK d n g k) i = sym d n g i := by simp [rowK, ix, h]
theorem frm_length (d : List UInt8) (n g : Nat) : (frm d n g).length = 32 := by unfold frm; rw [enc_length, rowK_length]
theorem frms_length (d : List UInt8) (n k : Nat) : (frms d n k).length = k := by simp [frms]
theorem frms_succ (d : List UInt8) (n k : Nat) : frms d n (k + 1) = frms d n k ++ [frm d n k] := by simp [frms, List.range_succ]
theorem frm_valid (d : List UInt8) (n g : Nat) : validB (frm d n g) 4 = true := by
  unfold frm
  exact enc_valid _ 4 (by
    have h := rowK_length d n g 28
    unfold encB
    have h2 : rowK d n g 28 ≠ [] := by intro e; rw [e] at h; simp at h
    simp [h2, h])
theorem wrd_valid {d : List UInt8} {f n : Nat} (hd : d.length = 24 * n) (hf : f < n) : validB (wrd d f) 4 = true := by
  unfold wrd
  exact enc_valid _ 4 (by
    have h := dat_length hd hf
    unfold encB
    have h2 : dat d f ≠ [] := by intro e; rw [e] at h; simp at h
    simp [h2, h])
/-- the C1 words that are received -/
def frA (F : List (List UInt8)) (g : Nat) : List UInt8 := (F[g]?).getD []
def got (F : List (List UInt8)) (g : Nat) : List UInt8 := (decode (frA F g) 4 []).1
def erD (F : List (List UInt8)) (f k : Nat) : List Int := ((List.range k).filter fun i => (got F (f + 4 * i)).isEmpty).map Int.ofNat
def wdD (F : List (List UInt8)) (f k : Nat) : List UInt8 := (List.range k).map fun i => ix (got F (f + 4 * i)) i
/-- the numbers below 'n' -/
def upI (n : Nat) : List Int := (List.range n).map Int.ofNat
def lo24 (E : List Int) : List Int := E.filter fun i => decide (i < 24)
def outD (F : List (List UInt8)) (f : Nat) : List UInt8 × List Int :=
  if (erD F f 28).length ≤ 4 then if (decode (wdD F f 28) 4 (erD F f 28)).2.2 = 0 then ((decode (wdD F f 28) 4 (erD F f 28)).1.take 24, []) else (List.replicate 24 0, upI 24) else ((wdD F f 28).take 24, lo24 (erD F f 28))
def at24 (f : Nat) (E : List Int) : List Int := E.map fun i => 24 * (f : Int) + i
def datD (F : List (List UInt8)) : Nat → List UInt8
  | 0 => []
  | n + 1 => datD F n ++ (outD F n).1
def lstD (F : List (List UInt8)) : Nat → List Int
  | 0 => []
  | n + 1 => lstD F n ++ at24 n (outD F n).2
def okF (F : List (List UInt8)) : Bool := F.all fun x => x.length == 0 || x.length == 32
def decR (F : List (List UInt8)) : List UInt8 × List Int × Int :=
  if F.length < 109 ∨ 892 < F.length then ([], [], 1) else if okF F = false then ([], [], 1) else (datD F (F.length - 108), lstD F (F.length - 108), 0)
theorem got_length (F : List (List UInt8)) (g : Nat) : got F g = [] ∨ (got F g).length = (frA F g).length := by
  unfold got
  by_cases h : (decode (frA F g) 4 []).2.2 = 0
  · exact .inr (decode_sound _ _ _ h).choose_spec.2.1
  · exact .inl (decode_bad2 _ _ _ h).1
theorem erD_succ (F : List (List UInt8)) (f k : Nat) : erD F f (k + 1) = if (got F (f + 4 * k)).isEmpty = true then erD F f k ++ [(k : Int)] else erD F f k := by
  unfold erD
  rw [List.range_succ, List.filter_append, List.map_append]
  by_cases h : (got F (f + 4 * k)).isEmpty = true
  · rw [if_pos h]; simp [h]
  · rw [if_neg h]; simp [h]
theorem mem_erD (F : List (List UInt8)) (f k : Nat) (x : Int) : x ∈ erD F f k ↔ ∃ i : Nat, i < k ∧ (got F (f + 4 * i)).isEmpty = true ∧ x = i := by
  simp only [erD, List.mem_map, List.mem_filter, List.mem_range]
  constructor
  · rintro ⟨i, ⟨h1, h2⟩, rfl⟩; exact ⟨i, h1, h2, rfl⟩
  · rintro ⟨i, h1, h2, rfl⟩; exact ⟨i, ⟨h1, h2⟩, rfl⟩
theorem erD_length (F : List (List UInt8)) (f k : Nat) : (erD F f k).length ≤ k := by
  unfold erD
  rw [List.length_map]
  have := List.length_filter_le (fun i => (got F (f + 4 * i)).isEmpty) (List.range k)
  rwa [List.length_range] at this
theorem wdD_length (F : List (List UInt8)) (f k : Nat) : (wdD F f k).length = k := by simp [wdD]
theorem wdD_succ (F : List (List UInt8)) (f k : Nat) : wdD F f (k + 1) = wdD F f k ++ [ix (got F (f + 4 * k)) k] := by simp [wdD, List.range_succ]
theorem ix_wdD (F : List (List UInt8)) (f k i : Nat) (h : i < k) : ix (wdD F f k) i = ix (got F (f + 4 * i)) i := by simp [wdD, ix, h]
theorem erD_pw (F : List (List UInt8)) (f k : Nat) : (erD F f k).Pairwise (· < ·) := by
  unfold erD
  rw [List.pairwise_map]
  refine (List.Pairwise.filter _ List.pairwise_lt_range).imp ?_
  intro a b h
  show (a : Int) < b
  omega
theorem erD_pos (F : List (List UInt8)) (f : Nat) : posB 28 (erD F f 28) = true := posB_mk (fun x hx => by
  obtain ⟨i, h1, _, rfl⟩ := (mem_erD F f 28 x).1 hx
  omega) (erD_pw F f 28)
theorem outD_length (F : List (List UInt8)) (f : Nat) : (outD F f).1.length = 24 := by
  unfold outD
  split
  · split
    · next h =>
      obtain ⟨m, _, h2, _⟩ := decode_sound _ _ _ h
      rw [List.length_take, h2, wdD_length]
      rfl
    · simp
  · rw [List.length_take, wdD_length]
    rfl
theorem outD_few (F : List (List UInt8)) (f : Nat) : (outD F f).2.length ≤ 28 := by
  unfold outD
  split
  · split
    · simp
    · simp [upI]
  · have h1 := List.length_filter_le (fun i => decide (i < 24)) (erD F f 28)
    have h2 := erD_length F f 28
    show (lo24 (erD F f 28)).length ≤ 28
    unfold lo24
    omega
theorem datD_length (F : List (List UInt8)) : ∀ n, (datD F n).length = 24 * n
  | 0 => rfl
  | n + 1 => by
    show (datD F n ++ (outD F n).1).length = _
    rw [List.length_append, datD_length F n, outD_length]
    omega
theorem lstD_length (F : List (List UInt8)) : ∀ n, (lstD F n).length ≤ 28 * n
  | 0 => by simp [lstD]
  | n + 1 => by
    have h1 := lstD_length F n
    have h2 := outD_few F n
    show (lstD F n ++ at24 n (outD F n).2).length ≤ _
    rw [List.length_append]
    unfold at24
    rw [List.length_map]
    omega
theorem outD_bd (F : List (List UInt8)) (f : Nat) : ∀ x ∈ (outD F f).2, 0 ≤ x ∧ x < 24 := by
  intro x hx
  unfold outD at hx
  split at hx
  · split at hx
    · simp at hx
    · simp only [upI, List.mem_map, List.mem_range] at hx
      obtain ⟨i, h1, rfl⟩ := hx
      show (0 : Int) ≤ (i : Int) ∧ (i : Int) < 24
      omega
  · simp only [lo24, List.mem_filter, decide_eq_true_eq] at hx
    obtain ⟨i, _, _, rfl⟩ := (mem_erD F f 28 x).1 hx.1
    omega
theorem lstD_bd (F : List (List UInt8)) : ∀ n, ∀ x ∈ lstD F n, 0 ≤ x ∧ x < 24 * (n : Int)
  | 0 => by simp [lstD]
  | n + 1 => by
    intro x hx
    have hx' : x ∈ lstD F n ++ at24 n (outD F n).2 := hx
    rw [List.mem_append] at hx'
    rcases hx' with h | h
    · have := lstD_bd F n x h; omega
    · simp only [at24, List.mem_map] at h
      obtain ⟨y, hy, rfl⟩ := h
      have := outD_bd F n y hy
      omega
/-- received frames: erased where the scratches cover them, else at most two symbols changed -/
def Near2 (d : List UInt8) (n : Nat) (l : List Sc) (F : List (List UInt8)) : Prop :=
  F.length = n + 108 ∧ ∀ g, g < n + 108 → if gon l g = true then frA F g = [] else (frA F g).length = 32 ∧ othN (frA F g) (frm d n g) [] 32 ≤ 2
theorem posB_nil (n : Nat) : posB n [] = true := by simp [posB, posN]
theorem decode_nil (n : Int) (l : List Int) : (decode [] n l).1 = [] := by
  unfold decode
  rw [if_pos (by simp [shapedB])]
theorem got_near {d : List UInt8} {n : Nat} {l : List Sc} {F : List (List UInt8)} (h : Near2 d n l F) {g : Nat} (hg : g < n + 108) : got F g = if gon l g = true then [] else frm d n g := by
  have h1 := h.2 g hg
  unfold got
  by_cases hc : gon l g = true
  · rw [if_pos hc] at h1
    rw [if_pos hc, h1]
    exact decode_nil _ _
  · rw [if_neg hc] at h1
    rw [if_neg hc]
    have := decode_spec (frA F g) (frm d n g) 4 [] (by rw [h1.1, frm_length]) (frm_valid d n g) (posB_nil _) (by rw [h1.1]; simp; omega)
    rw [show ((4 : Int)) = ((4 : Nat) : Int) from rfl, this]
theorem frm_ne (d : List UInt8) (n g : Nat) : (frm d n g).isEmpty = false := by
  have h := frm_length d n g
  cases e : frm d n g with
  | nil => rw [e] at h; simp at h
  | cons a b => rfl
theorem erD_near {d : List UInt8} {n : Nat} {l : List Sc} {F : List (List UInt8)} (h : Near2 d n l F) {f : Nat} (hf : f < n) : erD F f 28 = ers l f := by
  unfold erD ers ersK
  congr 1
  refine List.filter_congr fun i hi => ?_
  rw [List.mem_range] at hi
  rw [got_near h (by omega)]
  cases gon l (f + 4 * i) with
  | false => simp [frm_ne]
  | true => simp
theorem ix_enc (a : List UInt8) (n i : Nat) (h : i < a.length) : ix (enc a n) i = ix a i := by unfold enc; exact ix_append_lt h
theorem ix_frm {d : List UInt8} {n f i : Nat} (hf : f < n) (hi : i < 28) : ix (frm d n (f + 4 * i)) i = ix (wrd d f) i := by
  unfold frm
  rw [ix_enc _ _ _ (by rw [rowK_length]; exact hi), ix_rowK _ _ _ _ _ hi]
  unfold sym
  rw [if_pos ⟨by omega, by omega⟩, Nat.add_sub_cancel]
theorem wdD_near {d : List UInt8} {n : Nat} {l : List Sc} {F : List (List UInt8)} (h : Near2 d n l F) {f : Nat} (hf : f < n) (i : Nat) (hi : i < 28) : ix (wdD F f 28) i = if gon l (f + 4 * i) = true then 0 else ix (wrd d f) i := by
  rw [ix_wdD _ _ _ _ hi, got_near h (by omega)]
  split
  · rfl
  · exact ix_frm hf hi
theorem oth_zero (a b : List UInt8) (l : List Int) : ∀ k : Nat, (∀ i : Nat, i < k → (i : Int) ∉ l → ix a i = ix b i) → othN a b l k = 0
  | 0, _ => rfl
  | k + 1, h => by
    rw [othN, oth_zero a b l k (fun i hi => h i (by omega))]
    by_cases hk : (k : Int) ∈ l
    · have : cont l (k : Int) = true := (cont_iff l _).2 hk
      rw [this]; simp
    · rw [h k (by omega) hk]; simp
theorem outD_near {d : List UInt8} {n : Nat} {l : List Sc} {F : List (List UInt8)} (hd : d.length = 24 * n) (h : Near2 d n l F) {f : Nat} (hf : f < n) :
    (outD F f).1 = (List.range 24).map (fun i => if (4 < (ers l f).length ∧ gon l (f + 4 * i) = true) then 0 else ix (dat d f) i) ∧ at24 f (outD F f).2 = ls (ers l f) f := by
  have hw := wrd_length hd hf
  have hdl := dat_length hd hf
  have htake : ∀ i, i < 24 → ix (wrd d f) i = ix (dat d f) i := fun i hi => by
    unfold wrd
    exact ix_enc _ _ _ (by rw [hdl]; exact hi)
  unfold outD
  rw [erD_near h hf]
  by_cases h4 : (ers l f).length ≤ 4
  · rw [if_pos h4]
    have hdec := decode_spec (wdD F f 28) (wrd d f) 4 (ers l f) (by rw [wdD_length, hw]) (wrd_valid hd hf) (by rw [wdD_length, ← erD_near h hf]; exact erD_pos F f) (by
      rw [wdD_length, oth_zero]
      · omega
      · intro i hi hm
        rw [wdD_near h hf i hi, if_neg]
        intro hg
        exact hm ((mem_ersK l f 28 i).2 ⟨i, hi, hg, rfl⟩))
    rw [show ((4 : Int)) = ((4 : Nat) : Int) from rfl, hdec, if_pos rfl]
    refine ⟨?_, ?_⟩
    · apply List.ext_getElem
      · rw [List.length_take, hw]; simp
      · intro i h1 h2
        rw [List.length_take, hw] at h1
        have h3 := htake i (by omega)
        rw [List.getElem_take, List.getElem_map, List.getElem_range, if_neg (by omega), ← h3, ix_el (by omega)]
    · unfold ls lsK
      rw [if_pos h4]
      rfl
  · rw [if_neg h4]
    refine ⟨?_, ?_⟩
    · apply List.ext_getElem
      · rw [List.length_take, wdD_length]; simp
      · intro i h1 h2
        rw [List.length_take, wdD_length] at h1
        have h3 := wdD_near h hf i (by omega)
        rw [List.getElem_take, List.getElem_map, List.getElem_range]
        have h5 : (wdD F f 28)[i]'(by rw [wdD_length]; omega) = ix (wdD F f 28) i := (ix_el _).symm
        rw [h5, h3]
        by_cases hg : gon l (f + 4 * i) = true
        · rw [if_pos hg, if_pos ⟨by omega, hg⟩]
        · rw [if_neg hg, if_neg (fun hh => hg hh.2)]
          exact htake i (by omega)
    · unfold ls lsK
      rw [if_neg h4, List.take_length]
      rfl
theorem lstD_near {d : List UInt8} {n : Nat} {l : List Sc} {F : List (List UInt8)} (hd : d.length = 24 * n) (h : Near2 d n l F) : ∀ m, m ≤ n → lstD F m = lostN l m
  | 0, _ => rfl
  | m + 1, hm => by
    show lstD F m ++ at24 m (outD F m).2 = lostN l m ++ ls (ers l m) m
    rw [lstD_near hd h m (by omega), (outD_near hd h (by omega)).2]
theorem ix_dat (d : List UInt8) (f i : Nat) (h : i < 24) : ix (dat d f) i = ix d (24 * f + i) := by
  simp [dat, ix, h]
theorem datD_near {d : List UInt8} {n : Nat} {l : List Sc} {F : List (List UInt8)} (hd : d.length = 24 * n) (h : Near2 d n l F) : ∀ m, m ≤ n → ∀ i, i < 24 * m → ix (datD F m) i = if (i : Int) ∈ lostN l n then 0 else ix d i
  | 0, _, i, hi => by omega
  | m + 1, hm, i, hi => by
    have hL := datD_length F m
    show ix (datD F m ++ (outD F m).1) i = _
    by_cases hlt : i < 24 * m
    · rw [ix_append_lt (by omega)]
      exact datD_near hd h m (by omega) i hlt
    · rw [ix_append_ge (by omega), hL, (outD_near hd h (by omega)).1]
      obtain ⟨j, rfl⟩ : ∃ j, i = 24 * m + j := ⟨i - 24 * m, by omega⟩
      have hj : j < 24 := by omega
      have e : ix ((List.range 24).map (fun i => if (4 < (ers l m).length ∧ gon l (m + 4 * i) = true) then (0 : UInt8) else ix (dat d m) i)) (24 * m + j - 24 * m) = if (4 < (ers l m).length ∧ gon l (m + 4 * j) = true) then (0 : UInt8) else ix (dat d m) j := by
        rw [Nat.add_sub_cancel_left]
        unfold ix
        simp [hj]
      rw [e, ix_dat _ _ _ hj]
      by_cases hc : 4 < (ers l m).length ∧ gon l (m + 4 * j) = true
      · rw [if_pos hc, if_pos ((mem_lostN l _ n).2 ⟨m, j, by omega, hj, hc.2, by omega, hc.1⟩)]
      · rw [if_neg hc, if_neg]
        intro hx
        obtain ⟨f, k, h1, h2, h3, h4, h5⟩ := (mem_lostN l _ n).1 hx
        obtain rfl : f = m := by omega
        obtain rfl : k = j := by omega
        exact hc ⟨h5, h3⟩
theorem okF_near {d : List UInt8} {n : Nat} {l : List Sc} {F : List (List UInt8)} (h : Near2 d n l F) : okF F = true := by
  unfold okF
  rw [List.all_eq_true]
  intro x hx
  obtain ⟨g, hg, rfl⟩ := List.getElem_of_mem hx
  have h1 := h.2 g (by rw [← h.1]; exact hg)
  have e : frA F g = F[g] := by unfold frA; rw [List.getElem?_eq_getElem hg]; rfl
  rw [e] at h1
  split at h1
  · simp [h1]
  · simp [h1.1]
/-- what is decoded of frames that are near -/
theorem decR_near {d : List UInt8} {n : Nat} {l : List Sc} {F : List (List UInt8)} (hn : 1 ≤ n) (hn2 : n ≤ 784) (hd : d.length = 24 * n) (h : Near2 d n l F) :
    ∃ s, decR F = (s, lostN l n, 0) ∧ s.length = d.length ∧ ∀ i, i < d.length → ix s i = if (i : Int) ∈ lostN l n then 0 else ix d i := by
  unfold decR
  rw [h.1, if_neg (by omega), okF_near h, if_neg (by decide), Nat.add_sub_cancel, lstD_near hd h n (Nat.le_refl _)]
  exact ⟨_, rfl, by rw [datD_length, hd], fun i hi => datD_near hd h n (Nat.le_refl _) i (by omega)⟩
theorem list_ext {a b : List UInt8} (h : a.length = b.length) (h2 : ∀ i, i < b.length → ix a i = ix b i) : a = b := by
  apply List.ext_getElem h
  intro i h3 h4
  have := h2 i h4
  rwa [ix_el h3, ix_el h4] at this
theorem decR_none {d : List UInt8} {n : Nat} {l : List Sc} {F : List (List UInt8)} (hn : 1 ≤ n) (hn2 : n ≤ 784) (hd : d.length = 24 * n) (h : Near2 d n l F) (hl : lostN l n = []) : decR F = (d, [], 0) := by
  obtain ⟨s, h1, h2, h3⟩ := decR_near hn hn2 hd h
  rw [h1, hl]
  have : s = d := list_ext h2 fun i hi => by rw [h3 i hi, hl, if_neg (by simp)]
  rw [this]
/-- frames of which the covered ones are taken out -/
def scrF (F : List (List UInt8)) (l : List Sc) : List (List UInt8) := (List.range F.length).map fun g => if gon l g = true then [] else frA F g
theorem scrF_length (F : List (List UInt8)) (l : List Sc) : (scrF F l).length = F.length := by simp [scrF]
theorem frA_scrF (F : List (List UInt8)) (l : List Sc) {g : Nat} (hg : g < F.length) : frA (scrF F l) g = if gon l g = true then [] else frA F g := by simp [frA, scrF, hg]
theorem frA_frms (d : List UInt8) (n k g : Nat) (h : g < k) : frA (frms d n k) g = frm d n g := by simp [frA, frms, h]
theorem oth_self (a : List UInt8) (l : List Int) (k : Nat) : othN a a l k = 0 := oth_zero a a l k fun _ _ _ => rfl
theorem near_scr (d : List UInt8) (n : Nat) (l : List Sc) : Near2 d n l (scrF (frms d n (n + 108)) l) := by
  refine ⟨by rw [scrF_length, frms_length], fun g hg => ?_⟩
  rw [frA_scrF _ _ (by rw [frms_length]; exact hg), frA_frms _ _ _ _ hg]
  split
  · rfl
  · exact ⟨frm_length _ _ _, by rw [oth_self]; omega⟩
end Go.Proofs.YtflmjdjkfognjaaGreat.C9
namespace Go.Proofs.YtflmjdjkfognjaaGreat.T
set_option linter.unusedVariables false
/-- the tracks of a session among the first 'n' -/
def of (l : List Trk) (s : Int) : Nat → List Trk
  | 0 => []
  | n + 1 => if (tr l n).ses = s then of l s n ++ [tr l n] else of l s n
theorem of_mem {l : List Trk} {s : Int} {x : Trk} : ∀ n, x ∈ of l s n → ∃ j, j < n ∧ x = tr l j
  | 0, h => by simp [of] at h
  | n + 1, h => by
    unfold of at h
    split at h
    · rcases List.mem_append.1 h with h | h
      · obtain ⟨j, h1, h2⟩ := of_mem n h; exact ⟨j, by omega, h2⟩
      · exact ⟨n, by omega, by simpa using h⟩
    · obtain ⟨j, h1, h2⟩ := of_mem n h; exact ⟨j, by omega, h2⟩
theorem of_len (l : List Trk) (s : Int) : ∀ n, (of l s n).length ≤ n
  | 0 => by simp [of]
  | n + 1 => by have := of_len l s n; unfold of; split <;> simp <;> omega
theorem tr_app_lt {F : List Trk} {x : Trk} {i : Nat} (h : i < F.length) : tr (F ++ [x]) i = tr F i := by simp [tr, List.getElem?_append_left h]
theorem tr_app_eq (F : List Trk) (x : Trk) : tr (F ++ [x]) F.length = x := by simp [tr]
theorem tr_mem {F : List Trk} {i : Nat} (h : i < F.length) : tr F i ∈ F := by simp [tr, h]
/-- where a list of tracks ends -/
def lastE (F : List Trk) : Int := (tr F (F.length - 1)).st + (tr F (F.length - 1)).len
theorem lastE_app (F : List Trk) (x : Trk) : lastE (F ++ [x]) = x.st + x.len := by
  unfold lastE
  rw [show (F ++ [x]).length - 1 = F.length by simp, tr_app_eq]
/-- one track behind the other -/
def Ch (F : List Trk) : Prop := ∀ i, i + 1 < F.length → (tr F (i + 1)).num = (tr F i).num + 1 ∧ (tr F (i + 1)).st = (tr F i).st + (tr F i).len
theorem Ch.one (x : Trk) : Ch [x] := fun i h => by simp at h
theorem Ch.app {F : List Trk} {x : Trk} (h : Ch F) (hn : 0 < F.length → x.num = (tr F (F.length - 1)).num + 1 ∧ x.st = lastE F) : Ch (F ++ [x]) := fun i hi => by
  rw [List.length_append, List.length_singleton] at hi
  by_cases e : i + 1 < F.length
  · rw [tr_app_lt e, tr_app_lt (by omega)]; exact h i e
  · have e2 : i + 1 = F.length := by omega
    rw [e2, tr_app_eq, tr_app_lt (by omega)]
    have := hn (by omega)
    unfold lastE at this
    rwa [show F.length - 1 = i by omega] at this
abbrev S1 (cl : Int) (l : List Trk) (n j : Nat) : Int × Int × Bool := ((sess cl l n)[j]?).getD (0, 0, false)
/-- what holds when 'n' tracks have come -/
structure Inv (cl : Int) (l : List Trk) (n : Nat) : Prop where
  a : ∀ j, j < (sess cl l n).length → 0 < (of l (j + 1) n).length ∧ Ch (of l (j + 1) n) ∧ S1 cl l n j = ((tr (of l (j + 1) n) 0).st, lastE (of l (j + 1) n) - (tr (of l (j + 1) n) 0).st, decide (((j : Nat) : Int) + 1 ≤ cl))
  b : 0 < (sess cl l n).length → (tr (of l 1 n) 0).st = 0
  c : ∀ j, j + 1 < (sess cl l n).length → (tr (of l (j + 2) n) 0).st = lastE (of l (j + 1) n) + 16
  d : ∀ j, (sess cl l n).length ≤ j → of l (j + 1) n = []
  e : 0 < n → 0 < (sess cl l n).length ∧ ((sess cl l n).length : Int) = sB l n ∧ lastE (of l (sess cl l n).length n) = eB l n ∧ (tr (of l (sess cl l n).length n) ((of l (sess cl l n).length n).length - 1)).num = n
  f : n = 0 → (sess cl l n).length = 0
theorem of_new {l : List Trk} {s : Int} {n : Nat} (h : (tr l n).ses = s) : of l s (n + 1) = of l s n ++ [tr l n] := by rw [of, if_pos h]
theorem of_old {l : List Trk} {s : Int} {n : Nat} (h : (tr l n).ses ≠ s) : of l s (n + 1) = of l s n := by rw [of, if_neg h]
theorem inv_zero (cl : Int) (l : List Trk) : Inv cl l 0 :=
  ⟨fun j h => by simp [sess] at h, fun h => by simp [sess] at h, fun j h => by simp [sess] at h, fun j _ => rfl, fun h => by omega, fun _ => rfl⟩
theorem inv_succ {cap cl : Int} {l : List Trk} {n : Nat} (hr : ∀ i, i < n + 1 → okR cap cl l i) (h : Inv cl l n) : Inv cl l (n + 1) := by
  obtain ⟨r1, r2, _, _, r5, _⟩ := hr n (by omega)
  obtain ⟨K, hK⟩ : ∃ K, K = (sess cl l n).length := ⟨_, rfl⟩
  by_cases hn : n = 0 ∨ sB l n ≠ (tr l n).ses
  · have hs := sess_new (cl := cl) hn
    have hL : (sess cl l (n + 1)).length = K + 1 := by rw [hs, List.length_append, List.length_singleton, hK]
    have hses : (tr l n).ses = ((K : Nat) : Int) + 1 := by
      by_cases h0 : n = 0
      · rw [if_neg (by omega)] at r2
        have := h.f h0
        rw [r2, h0, sB_zero]; omega
      · have := (h.e (by omega)).2.1
        split at r2 <;> omega
    have hst : (tr l n).st = if n = 0 then 0 else eB l n + 16 := by
      by_cases h0 : n = 0
      · rw [if_pos h0]; rw [if_neg (by omega)] at r5
        rw [r5, h0, eB_zero]
      · rw [if_neg h0]; rw [if_pos (by
          refine ⟨by omega, ?_⟩
          have := (h.e (by omega)).2.1
          omega)] at r5
        exact r5
    have hold : ∀ j, j < K → of l (((j : Nat) : Int) + 1) (n + 1) = of l (((j : Nat) : Int) + 1) n := fun j hj => of_old (by omega)
    have hnew : of l (((K : Nat) : Int) + 1) (n + 1) = [tr l n] := by rw [of_new hses, h.d K (by omega)]; rfl
    refine ⟨fun j hj => ?_, fun hj => ?_, fun j hj => ?_, fun j hj => ?_, fun _ => ?_, fun h => by omega⟩
    · rw [hL] at hj
      by_cases hjk : j < K
      · rw [hold j hjk]
        have ha := h.a j (by omega)
        refine ⟨ha.1, ha.2.1, ?_⟩
        rw [← ha.2.2]
        unfold S1
        rw [hs, List.getElem?_append_left (by omega)]
      · obtain rfl : j = K := by omega
        rw [hnew]
        refine ⟨by simp, Ch.one _, ?_⟩
        unfold S1
        rw [hs, hK, List.getElem?_append_right (Nat.le_refl _), Nat.sub_self]
        simp only [List.getElem?_cons_zero, Option.getD_some]
        rw [hses, hK]
        rfl
    · by_cases hjk : 0 < K
      · have := hold 0 hjk
        rw [show (((0 : Nat) : Int) + 1) = 1 by rfl] at this
        rw [this]; exact h.b (by omega)
      · have h0 : K = 0 := by omega
        have hn0 : n = 0 := by
          by_cases e : n = 0
          · exact e
          · have := (h.e (by omega)).1; omega
        rw [h0] at hnew
        rw [show (((0 : Nat) : Int) + 1) = 1 by rfl] at hnew
        rw [hnew]
        show (tr l n).st = 0
        rw [hst, if_pos hn0]
    · rw [hL] at hj
      by_cases hjk : j + 1 < K
      · have e1 := hold j (by omega)
        have e2 := hold (j + 1) hjk
        rw [show (((j + 1 : Nat) : Int) + 1) = (j : Int) + 2 by omega] at e2
        rw [e1, e2]; exact h.c j (by omega)
      · have e1 := hold j (by omega)
        have hKj : K = j + 1 := by omega
        rw [hKj, show (((j + 1 : Nat) : Int) + 1) = (j : Int) + 2 by omega] at hnew
        rw [e1, hnew]
        show (tr l n).st = _
        have hn0 : n ≠ 0 := fun e => by have := h.f e; omega
        have he := (h.e (by omega)).2.2.1
        rw [← hK, hKj, show (((j + 1 : Nat) : Int)) = (j : Int) + 1 by omega] at he
        rw [hst, if_neg hn0, he]
    · rw [hL] at hj
      rw [of_old (by omega)]
      exact h.d j (by omega)
    · rw [hL, sB_succ, eB_succ]
      rw [show (((K + 1 : Nat) : Int)) = (K : Int) + 1 by omega, hnew]
      refine ⟨by omega, hses.symm, rfl, ?_⟩
      show (tr l n).num = _
      omega
  · have hn0 : n ≠ 0 := fun e => hn (.inl e)
    have hse : (tr l n).ses = sB l n := by
      by_cases e : sB l n = (tr l n).ses
      · exact e.symm
      · exact (hn (.inr e)).elim
    obtain ⟨e1, e2, e3, e4⟩ := h.e (by omega)
    rw [← hK] at e1 e2 e3 e4
    have hst : (tr l n).st = eB l n := by rw [if_neg (by omega)] at r5; exact r5
    have hsess : sess cl l (n + 1) = (sess cl l n).set (K - 1) ((S1 cl l n (K - 1)).1, (tr l n).st + (tr l n).len - (S1 cl l n (K - 1)).1, (S1 cl l n (K - 1)).2.2) := by rw [sess, if_neg hn, ← hK]
    have hL : (sess cl l (n + 1)).length = K := by rw [hsess, List.length_set, hK]
    have hold : ∀ j, j + 1 < K → of l (((j : Nat) : Int) + 1) (n + 1) = of l (((j : Nat) : Int) + 1) n := fun j hj => of_old (by omega)
    obtain ⟨k, hk⟩ : ∃ k, K = k + 1 := ⟨K - 1, by omega⟩
    have hKs : ((K : Nat) : Int) = (k : Int) + 1 := by omega
    have hnew : of l ((k : Int) + 1) (n + 1) = of l ((k : Int) + 1) n ++ [tr l n] := of_new (by omega)
    have ha := h.a k (by omega)
    rw [hKs] at e3 e4
    have h0 : tr (of l ((k : Int) + 1) n ++ [tr l n]) 0 = tr (of l ((k : Int) + 1) n) 0 := tr_app_lt ha.1
    refine ⟨fun j hj => ?_, fun hj => ?_, fun j hj => ?_, fun j hj => ?_, fun _ => ?_, fun h => by omega⟩
    · rw [hL] at hj
      by_cases hjk : j + 1 < K
      · rw [hold j hjk]
        have hb := h.a j (by omega)
        refine ⟨hb.1, hb.2.1, ?_⟩
        rw [← hb.2.2]
        unfold S1
        rw [hsess, List.getElem?_set_ne (by omega)]
      · obtain rfl : j = k := by omega
        rw [hnew, h0, lastE_app]
        refine ⟨by simp, ha.2.1.app (fun _ => ⟨by rw [e4, r1], by rw [hst, e3]⟩), ?_⟩
        have hS := ha.2.2
        unfold S1 at hS ⊢
        rw [hsess, show K - 1 = j by omega, List.getElem?_set_self (by omega)]
        simp only [Option.getD_some]
        unfold S1
        rw [hS]
    · by_cases hjk : 1 < K
      · have := hold 0 (by omega)
        rw [show (((0 : Nat) : Int) + 1) = 1 by rfl] at this
        rw [this]; exact h.b (by omega)
      · have hk0 : k = 0 := by omega
        subst hk0
        rw [show (((0 : Nat) : Int) + 1) = 1 by rfl] at hnew h0
        rw [hnew, h0]; exact h.b (by omega)
    · rw [hL] at hj
      have e5 := hold j hj
      by_cases hjk : j + 2 < K
      · have e6 := hold (j + 1) hjk
        rw [show (((j + 1 : Nat) : Int) + 1) = (j : Int) + 2 by omega] at e6
        rw [e5, e6]; exact h.c j (by omega)
      · have hkj : k = j + 1 := by omega
        rw [hkj, show (((j + 1 : Nat) : Int) + 1) = (j : Int) + 2 by omega] at hnew h0
        rw [e5, hnew, h0]; exact h.c j (by omega)
    · rw [hL] at hj
      rw [of_old (by omega)]
      exact h.d j (by omega)
    · rw [hL, sB_succ, eB_succ, hKs, hnew, lastE_app]
      refine ⟨by omega, by omega, rfl, ?_⟩
      rw [show (of l ((k : Int) + 1) n ++ [tr l n]).length - 1 = (of l ((k : Int) + 1) n).length by simp, tr_app_eq]
      omega
theorem inv_all {cap cl : Int} {l : List Trk} : ∀ n, (∀ i, i < n → okR cap cl l i) → Inv cl l n
  | 0, _ => inv_zero cl l
  | n + 1, h => inv_succ h (inv_all n (fun i hi => h i (by omega)))
theorem eB_nonneg {cap cl : Int} {l : List Trk} : ∀ n, (∀ i, i < n → okR cap cl l i) → 0 ≤ eB l n
  | 0, _ => by rw [eB_zero]; omega
  | n + 1, h => by
    have h1 := eB_nonneg n (fun i hi => h i (by omega))
    have h2 := (h n (by omega)).next
    omega
/-- what is known of a track of a valid table -/
theorem tr_bd {cap cl : Int} {fin : Bool} {l : List Trk} (hv : validR cap cl fin l) {m : Nat} (hm : m < l.length) : (tr l m).num = m + 1 ∧ 0 ≤ (tr l m).st ∧ 1 ≤ (tr l m).len ∧ (tr l m).st + (tr l m).len ≤ cap := by
  have hr := hv.2.2.2.2.2.1
  obtain ⟨r1, _, _, _, r5, r6, r7, _⟩ := hr m hm
  have h0 := eB_nonneg m (fun i hi => hr i (by omega))
  split at r5 <;> omega
theorem sess_of {cap cl : Int} {fin : Bool} {l : List Trk} (hv : validR cap cl fin l) {j : Nat} (hj : j < (sess cl l l.length).length) : Q.Sess (of l (j + 1) l.length) := by
  have hI := inv_all (cl := cl) l.length hv.2.2.2.2.2.1
  obtain ⟨a1, a2, _⟩ := hI.a j hj
  have hlen := of_len l (j + 1) l.length
  have hcap := hv.2.1
  have h99 := hv.2.2.1
  refine ⟨a1, by omega, fun i hi => ?_⟩
  obtain ⟨m, hm, he⟩ := of_mem _ (tr_mem hi)
  have hb := tr_bd hv hm
  rw [← he] at hb
  unfold Q.okS
  refine ⟨by omega, by omega, fun h => ?_, ?_, by omega, by omega, by omega⟩
  · have := (a2 (i - 1) (by omega)).1
    rwa [show i - 1 + 1 = i by omega] at this
  · cases i with
    | zero => rw [eB_zero]; omega
    | succ i => rw [eB_succ]; have := (a2 i hi).2; omega
theorem sess_many {cap cl : Int} {fin : Bool} {l : List Trk} (hv : validR cap cl fin l) : cl ≤ (sess cl l l.length).length := by
  have hI := inv_all (cl := cl) l.length hv.2.2.2.2.2.1
  have h7 := hv.2.2.2.2.2.2.1
  by_cases h0 : 0 < l.length
  · rw [if_pos h0] at h7
    have := (hI.e h0).2.1
    omega
  · rw [if_neg h0] at h7; omega
end Go.Proofs.YtflmjdjkfognjaaGreat.T
