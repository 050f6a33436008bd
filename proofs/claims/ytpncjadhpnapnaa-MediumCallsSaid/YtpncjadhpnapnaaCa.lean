/- Chapter 9, plain: scratches, the channel frames that they cover, the bytes that are lost. -/
import Derived.Test.YtpncjadhpnapnaaG8
namespace Go.Proofs.Ytpncjadhpnapnaa.C9
set_option linter.unusedVariables false

/-- a scratch: the first frame, and how many -/
structure Sc where
  f : Int
  c : Int
/-- the scratch lies within 'n' frames -/
def fitB (n : Nat) (s : Sc) : Bool := decide (0 ≤ s.f) && decide (1 ≤ s.c) && decide (s.c ≤ (n : Int)) && decide (s.f ≤ (n : Int) - s.c)
theorem fitB_iff (n : Nat) (s : Sc) : fitB n s = true ↔ 0 ≤ s.f ∧ 1 ≤ s.c ∧ s.c ≤ (n : Int) ∧ s.f ≤ (n : Int) - s.c := by
  simp [fitB, and_assoc]
def fitA (n : Nat) (l : List Sc) : Bool := l.all (fitB n)
/-- a list of 'n' marks -/
def mk (n : Nat) (p : Nat → Bool) : List Bool := (List.range n).map p
theorem mk_length (n : Nat) (p : Nat → Bool) : (mk n p).length = n := by simp [mk]
theorem mk_get {n k : Nat} (p : Nat → Bool) (h : k < n) : (mk n p)[k]? = some (p k) := by simp [mk, h]
theorem mk_congr {n : Nat} {p q : Nat → Bool} (h : ∀ k, k < n → p k = q k) : mk n p = mk n q := List.map_congr_left fun k hk => h k (List.mem_range.1 hk)
theorem mk_false (n : Nat) : mk n (fun _ => false) = List.replicate n false := by
  apply List.ext_getElem <;> simp [mk]
theorem mk_set (n k : Nat) (p : Nat → Bool) : (mk n p).set k true = mk n (fun g => p g || g == k) := by
  apply List.ext_getElem?
  intro g
  rw [List.getElem?_set]
  by_cases hk : k = g
  · subst hk
    rw [if_pos rfl]
    by_cases hn : k < n
    · rw [mk_length, if_pos hn, mk_get _ hn]; simp
    · rw [mk_length, if_neg hn, List.getElem?_eq_none (by rw [mk_length]; omega)]
  · rw [if_neg hk]
    by_cases hn : g < n
    · rw [mk_get _ hn, mk_get _ hn]
      have : (g == k) = false := by rw [beq_eq_false_iff_ne]; omega
      simp [this]
    · rw [List.getElem?_eq_none (by rw [mk_length]; omega), List.getElem?_eq_none (by rw [mk_length]; omega)]
/-- the frame 'g' lies within the first 'x' of the scratch -/
def covX (s : Sc) (x : Int) (g : Nat) : Bool := decide (s.f ≤ (g : Int)) && decide ((g : Int) < s.f + x)
def gon (l : List Sc) (g : Nat) : Bool := l.any fun s => covX s s.c g
theorem gon_iff (l : List Sc) (g : Nat) : gon l g = true ↔ ∃ s ∈ l, s.f ≤ (g : Int) ∧ (g : Int) < s.f + s.c := by
  simp [gon, covX]
theorem gon_snoc (l : List Sc) (s : Sc) (g : Nat) : gon (l ++ [s]) g = (gon l g || covX s s.c g) := by simp [gon]
/-- the marks of the covered frames, where of the last scratch 'i' frames are marked -/
def prt (n : Nat) (l : List Sc) (s : Sc) (i : Nat) : List Bool := mk n fun g => gon l g || covX s i g
theorem prt_zero (n : Nat) (l : List Sc) (s : Sc) : prt n l s 0 = mk n (gon l) := mk_congr fun k _ => by
  have : covX s ((0 : Nat) : Int) k = false := by
    unfold covX
    rw [Bool.and_eq_false_iff]
    by_cases h : s.f ≤ (k : Int)
    · right; rw [decide_eq_false_iff_not]; omega
    · left; rw [decide_eq_false_iff_not]; exact h
  show (gon l k || covX s ((0 : Nat) : Int) k) = gon l k
  rw [this, Bool.or_false]
theorem prt_succ (n : Nat) (l : List Sc) (s : Sc) (i k : Nat) (hk : (k : Int) = s.f + i) : (prt n l s i).set k true = prt n l s (i + 1) := by
  unfold prt
  rw [mk_set]
  refine mk_congr fun g _ => ?_
  rw [Bool.or_assoc]
  congr 1
  rw [Bool.eq_iff_iff]
  simp only [covX, Bool.or_eq_true, Bool.and_eq_true, decide_eq_true_eq, beq_iff_eq]
  omega
theorem prt_all (n : Nat) (l : List Sc) (s : Sc) (i : Nat) (hi : (i : Int) = s.c) : prt n l s i = mk n (gon (l ++ [s])) := by
  unfold prt
  rw [hi]
  exact mk_congr fun g _ => (gon_snoc l s g).symm
/-- the data frames that a scratch may touch -/
def touX (s : Sc) (x : Int) (g : Nat) : Bool := decide (max 0 (s.f - 108) ≤ (g : Int)) && decide ((g : Int) < x)
def tou (l : List Sc) (g : Nat) : Bool := l.any fun s => touX s (s.f + s.c) g
theorem tou_snoc (l : List Sc) (s : Sc) (g : Nat) : tou (l ++ [s]) g = (tou l g || touX s (s.f + s.c) g) := by simp [tou]
def pto (n : Nat) (l : List Sc) (s : Sc) (x : Int) : List Bool := mk n fun g => tou l g || touX s x g
theorem pto_zero (n : Nat) (l : List Sc) (s : Sc) (x : Int) (hx : x ≤ max 0 (s.f - 108)) : pto n l s x = mk n (tou l) := mk_congr fun k _ => by
  have : touX s x k = false := by
    unfold touX
    rw [Bool.and_eq_false_iff]
    by_cases h : max 0 (s.f - 108) ≤ (k : Int)
    · right; rw [decide_eq_false_iff_not]; omega
    · left; rw [decide_eq_false_iff_not]; exact h
  simp [this]
theorem pto_succ (n : Nat) (l : List Sc) (s : Sc) (k : Nat) (hk : max 0 (s.f - 108) ≤ (k : Int)) : (pto n l s k).set k true = pto n l s ((k : Int) + 1) := by
  unfold pto
  rw [mk_set]
  refine mk_congr fun g _ => ?_
  rw [Bool.or_assoc]
  congr 1
  rw [Bool.eq_iff_iff]
  simp only [touX, Bool.or_eq_true, Bool.and_eq_true, decide_eq_true_eq, beq_iff_eq]
  omega
theorem pto_all (n : Nat) (l : List Sc) (s : Sc) (x : Int) (hx : min (n : Int) (s.f + s.c) ≤ x) (h2 : x ≤ max (s.f + s.c) 0 ∨ x ≤ max 0 (s.f - 108)) : pto n l s x = mk n (tou (l ++ [s])) := mk_congr fun g hg => by
  rw [tou_snoc]
  congr 1
  rw [Bool.eq_iff_iff]
  simp only [touX, Bool.and_eq_true, decide_eq_true_eq]
  omega
/-- the first 'k' symbols of the word 'f', those that are erased -/
def ersK (l : List Sc) (f k : Nat) : List Int := ((List.range k).filter fun i => gon l (f + 4 * i)).map Int.ofNat
def ers (l : List Sc) (f : Nat) : List Int := ersK l f 28
theorem ersK_succ (l : List Sc) (f k : Nat) : ersK l f (k + 1) = if gon l (f + 4 * k) = true then ersK l f k ++ [(k : Int)] else ersK l f k := by
  unfold ersK
  rw [List.range_succ, List.filter_append, List.map_append]
  by_cases h : gon l (f + 4 * k) = true
  · rw [if_pos h]; simp [h]
  · rw [if_neg h]; simp [h]
theorem ersK_length (l : List Sc) (f k : Nat) : (ersK l f k).length ≤ k := by
  unfold ersK
  rw [List.length_map]
  have := List.length_filter_le (fun i => gon l (f + 4 * i)) (List.range k)
  rwa [List.length_range] at this
theorem mem_ersK (l : List Sc) (f k : Nat) (x : Int) : x ∈ ersK l f k ↔ ∃ i : Nat, i < k ∧ gon l (f + 4 * i) = true ∧ x = i := by
  simp only [ersK, List.mem_map, List.mem_filter, List.mem_range]
  constructor
  · rintro ⟨i, ⟨h1, h2⟩, rfl⟩; exact ⟨i, h1, h2, rfl⟩
  · rintro ⟨i, h1, h2, rfl⟩; exact ⟨i, ⟨h1, h2⟩, rfl⟩
theorem ers_bd (l : List Sc) (f : Nat) : ∀ x ∈ ers l f, 0 ≤ x ∧ x < 28 := fun x hx => by
  obtain ⟨i, h1, _, rfl⟩ := (mem_ersK l f 28 x).1 hx
  omega
theorem ers_untouched (l : List Sc) (f : Nat) (h : tou l f = false) : ers l f = [] := by
  rw [List.eq_nil_iff_forall_not_mem]
  intro x hx
  obtain ⟨i, h1, h2, rfl⟩ := (mem_ersK l f 28 x).1 hx
  obtain ⟨s, hs, h3, h4⟩ := (gon_iff _ _).1 h2
  have h5 : tou l f = true := by
    unfold tou
    rw [List.any_eq_true]
    refine ⟨s, hs, ?_⟩
    simp only [touX, Bool.and_eq_true, decide_eq_true_eq]
    omega
  rw [h] at h5
  exact absurd h5 (by decide)
/-- what of the erased symbols 'E' of the word 'f' is lost, the first 'k' looked at -/
def lsK (E : List Int) (f k : Nat) : List Int := if E.length ≤ 4 then [] else ((E.take k).filter fun i => decide (i < 24)).map fun i => 24 * (f : Int) + i
def ls (E : List Int) (f : Nat) : List Int := lsK E f E.length
theorem lsK_zero (E : List Int) (f : Nat) : lsK E f 0 = [] := by unfold lsK; split <;> simp
theorem lsK_succ (E : List Int) (f k : Nat) (x : Int) (hx : E[k]? = some x) : lsK E f (k + 1) = if 4 < E.length ∧ x < 24 then lsK E f k ++ [24 * (f : Int) + x] else lsK E f k := by
  unfold lsK
  by_cases h : E.length ≤ 4
  · rw [if_pos h, if_pos h, if_neg (by omega)]
  · rw [if_neg h, if_neg h]
    obtain ⟨hk, rfl⟩ := List.getElem?_eq_some_iff.1 hx
    rw [List.take_succ_eq_append_getElem hk, List.filter_append, List.map_append]
    by_cases h2 : E[k] < 24
    · rw [if_pos ⟨by omega, h2⟩]; simp [h2]
    · rw [if_neg (fun h3 => h2 h3.2)]; simp [h2]
theorem lsK_length (E : List Int) (f k : Nat) (hE : E.length ≤ 28) : (lsK E f k).length ≤ 28 := by
  unfold lsK
  split
  · simp
  · rw [List.length_map]
    have h1 := List.length_filter_le (fun i => decide (i < 24)) (E.take k)
    have h2 : (E.take k).length ≤ E.length := List.length_take_le' _ _
    omega
theorem ls_nil (f : Nat) : ls [] f = [] := by simp [ls, lsK]
/-- what is lost of the first 'n' words -/
def lostN (l : List Sc) : Nat → List Int
  | 0 => []
  | n + 1 => lostN l n ++ ls (ers l n) n
theorem lostN_length (l : List Sc) : ∀ n, (lostN l n).length ≤ 28 * n
  | 0 => by simp [lostN]
  | n + 1 => by
    have h1 := lostN_length l n
    have h2 := lsK_length (ers l n) n (ers l n).length (ersK_length l n 28)
    show (lostN l n ++ lsK (ers l n) n (ers l n).length).length ≤ _
    rw [List.length_append]
    omega
theorem mem_ls (l : List Sc) (f : Nat) (x : Int) : x ∈ ls (ers l f) f ↔ ∃ i : Nat, i < 24 ∧ gon l (f + 4 * i) = true ∧ x = 24 * (f : Int) + i ∧ 4 < (ers l f).length := by
  unfold ls lsK
  by_cases h : (ers l f).length ≤ 4
  · rw [if_pos h]
    constructor
    · intro hx; simp at hx
    · rintro ⟨_, _, _, _, h2⟩; omega
  · rw [if_neg h, List.take_length]
    simp only [List.mem_map, List.mem_filter, decide_eq_true_eq]
    constructor
    · rintro ⟨y, ⟨hy, h2⟩, rfl⟩
      obtain ⟨i, h3, h4, rfl⟩ := (mem_ersK l f 28 y).1 hy
      exact ⟨i, by omega, h4, rfl, by omega⟩
    · rintro ⟨i, h2, h3, rfl, _⟩
      exact ⟨i, ⟨(mem_ersK l f 28 _).2 ⟨i, by omega, h3, rfl⟩, by omega⟩, rfl⟩
theorem mem_lostN (l : List Sc) (x : Int) : ∀ n, x ∈ lostN l n ↔ ∃ f i : Nat, f < n ∧ i < 24 ∧ gon l (f + 4 * i) = true ∧ x = 24 * (f : Int) + i ∧ 4 < (ers l f).length
  | 0 => by simp [lostN]
  | n + 1 => by
    show x ∈ lostN l n ++ ls (ers l n) n ↔ _
    rw [List.mem_append, mem_lostN l x n, mem_ls]
    constructor
    · rintro (⟨f, i, h1, h2⟩ | ⟨i, h1⟩)
      · exact ⟨f, i, by omega, h2⟩
      · exact ⟨n, i, by omega, h1⟩
    · rintro ⟨f, i, h1, h2⟩
      by_cases h : f = n
      · subst h; exact .inr ⟨i, h2⟩
      · exact .inl ⟨f, i, by omega, h2⟩
theorem ersK_sorted (l : List Sc) (f k : Nat) : (ersK l f k).Pairwise (· < ·) := by
  unfold ersK
  rw [List.pairwise_map]
  refine (List.Pairwise.filter _ List.pairwise_lt_range).imp ?_
  intro a b h
  show (a : Int) < b
  omega
theorem ls_sorted (l : List Sc) (f : Nat) : (ls (ers l f) f).Pairwise (· < ·) := by
  unfold ls lsK
  split
  · exact List.Pairwise.nil
  · rw [List.pairwise_map, List.take_length]
    refine (List.Pairwise.filter _ (ersK_sorted l f 28)).imp ?_
    intro a b h
    omega
theorem lostN_bd (l : List Sc) (n : Nat) : ∀ x ∈ lostN l n, 0 ≤ x ∧ x < 24 * (n : Int) := by
  intro x hx
  obtain ⟨f, i, h1, h2, _, rfl, _⟩ := (mem_lostN l x n).1 hx
  omega
theorem lostN_sorted (l : List Sc) : ∀ n, (lostN l n).Pairwise (· < ·)
  | 0 => List.Pairwise.nil
  | n + 1 => by
    show (lostN l n ++ ls (ers l n) n).Pairwise _
    rw [List.pairwise_append]
    refine ⟨lostN_sorted l n, ls_sorted l n, fun a ha b hb => ?_⟩
    have h1 := lostN_bd l n a ha
    obtain ⟨i, _, _, rfl, _⟩ := (mem_ls l n b).1 hb
    omega
/-- further scratches -/
theorem gon_mono {l m : List Sc} (h : ∀ s ∈ l, s ∈ m) {g : Nat} (hg : gon l g = true) : gon m g = true := by
  obtain ⟨s, hs, h2⟩ := (gon_iff _ _).1 hg
  exact (gon_iff _ _).2 ⟨s, h s hs, h2⟩
theorem ersK_mono {l m : List Sc} (h : ∀ s ∈ l, s ∈ m) (f : Nat) : ∀ k, (ersK l f k).length ≤ (ersK m f k).length
  | 0 => by simp [ersK]
  | k + 1 => by
    have ih := ersK_mono h f k
    rw [ersK_succ, ersK_succ]
    by_cases h1 : gon l (f + 4 * k) = true
    · rw [if_pos h1, if_pos (gon_mono h h1)]; simp; omega
    · rw [if_neg h1]
      split
      · simp; omega
      · exact ih
theorem lostN_mono {l m : List Sc} (h : ∀ s ∈ l, s ∈ m) (n : Nat) : ∀ x ∈ lostN l n, x ∈ lostN m n := by
  intro x hx
  obtain ⟨f, i, h1, h2, h3, h4, h5⟩ := (mem_lostN l x n).1 hx
  exact (mem_lostN m x n).2 ⟨f, i, h1, h2, gon_mono h h3, h4, by have := ersK_mono h f 28; unfold ers at h5 ⊢; omega⟩
/-- the scratches matter only as a set of covered frames -/
theorem lostN_congr {l m : List Sc} (h : ∀ g, gon l g = gon m g) (n : Nat) : lostN l n = lostN m n := by
  have e : ∀ f, ers l f = ers m f := fun f => by
    unfold ers ersK
    rw [show (fun i => gon l (f + 4 * i)) = (fun i => gon m (f + 4 * i)) from funext fun i => h _]
  induction n with
  | zero => rfl
  | succ n ih =>
    show lostN l n ++ _ = lostN m n ++ _
    rw [ih, e]
/-- of a word at most as many symbols are erased as frames are covered -/
theorem ersK_one (s : Sc) (f : Nat) : ∀ k, ((ersK [s] f k).length : Int) * 4 ≤ max 0 (min (s.c + 3) ((f : Int) + 4 * k - s.f))
  | 0 => by simp [ersK]; omega
  | k + 1 => by
    have ih := ersK_one s f k
    rw [ersK_succ]
    by_cases h : gon [s] (f + 4 * k) = true
    · rw [if_pos h]
      obtain ⟨t, ht, h1, h2⟩ := (gon_iff _ _).1 h
      simp only [List.mem_singleton] at ht
      subst ht
      simp only [List.length_append, List.length_cons, List.length_nil]
      omega
    · rw [if_neg h]
      omega
theorem ersK_cons (s : Sc) (l : List Sc) (f : Nat) : ∀ k, (ersK (s :: l) f k).length ≤ (ersK [s] f k).length + (ersK l f k).length
  | 0 => by simp [ersK]
  | k + 1 => by
    have ih := ersK_cons s l f k
    have e : gon (s :: l) (f + 4 * k) = (gon [s] (f + 4 * k) || gon l (f + 4 * k)) := by simp [gon]
    rw [ersK_succ, ersK_succ, ersK_succ, e]
    cases gon [s] (f + 4 * k) <;> cases gon l (f + 4 * k) <;> simp <;> omega
theorem ersK_few (l : List Sc) (h : ∀ s ∈ l, s.c = 1) (f k : Nat) : (ersK l f k).length ≤ l.length := by
  induction l with
  | nil =>
    have : ersK [] f k = [] := by simp [ersK, gon]
    simp [this]
  | cons s l ih =>
    have h1 := ersK_cons s l f k
    have h2 := ersK_one s f k
    have h3 := ih fun t ht => h t (by simp [ht])
    have h4 := h s (by simp)
    simp only [List.length_cons]
    omega
theorem lostN_none {l : List Sc} (h : ∀ f, (ers l f).length ≤ 4) : ∀ n, lostN l n = []
  | 0 => rfl
  | n + 1 => by
    show lostN l n ++ lsK _ _ _ = []
    rw [lostN_none h n]
    unfold lsK
    rw [if_pos (h n)]
    rfl
theorem lost_burst (s : Sc) (h : s.c ≤ 16) (n : Nat) : lostN [s] n = [] := lostN_none (fun f => by
  have := ersK_one s f 28
  unfold ers
  omega) n
theorem lost_few (l : List Sc) (h : ∀ s ∈ l, s.c = 1) (h4 : l.length ≤ 4) (n : Nat) : lostN l n = [] := lostN_none (fun f => by
  have := ersK_few l h f 28
  unfold ers
  omega) n
end Go.Proofs.Ytpncjadhpnapnaa.C9
