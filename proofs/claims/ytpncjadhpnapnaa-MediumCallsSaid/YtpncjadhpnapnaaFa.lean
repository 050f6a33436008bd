/- Chapter 12, plain: a medium, what its calls do and what is read of it. -/
import Derived.Test.YtpncjadhpnapnaaCa
import Derived.Test.YtpncjadhpnapnaaOwn
namespace Go.Proofs.Ytpncjadhpnapnaa.D12
open C9 Go.RowKit
set_option linter.unusedVariables false

/-- a sector: its state, how often it was recorded, its bytes, the erased offsets, the value that each byte is changed by -/
structure Sec where
  st : Nat
  cnt : Nat
  raw : List UInt8
  er : Nat → Bool
  ch : Nat → UInt8
/-- a medium -/
structure Med where
  kind : Nat
  endu : Nat
  secs : List Sec
  scr : List Sc
def blank : Sec := ⟨0, 0, [], fun _ => false, fun _ => 0⟩
def Med.n (M : Med) : Nat := M.secs.length
def Med.sec (M : Med) (i : Nat) : Sec := atD blank M.secs i
def Med.put (M : Med) (i : Nat) (s : Sec) : Med := { M with secs := M.secs.set i s }
theorem Med.put_n (M : Med) (i : Nat) (s : Sec) : (M.put i s).n = M.n := by simp [Med.put, Med.n]
theorem Med.put_sec (M : Med) {i : Nat} (s : Sec) (h : i < M.n) : (M.put i s).sec i = s := atD_set_eq _ _ _ h
theorem Med.put_other (M : Med) {i k : Nat} (s : Sec) (h : k ≠ i) : (M.put i s).sec k = M.sec k := atD_set_ne _ _ _ _ h
/-- the lost bytes of the surface -/
def lostL (n : Nat) (scr : List Sc) : List Int := lostN scr (98 * n)
def lostP (n : Nat) (scr : List Sc) (i k : Nat) : Bool := decide (((2352 * i + k : Nat) : Int) ∈ lostL n scr)
def Med.goneP (M : Med) (i k : Nat) : Bool := (M.sec i).er k || lostP M.n M.scr i k
def Med.gone (M : Med) (i : Nat) : List Int := ((List.range 2352).filter (M.goneP i)).map Int.ofNat
def byteA (l : List UInt8) (k : Nat) : UInt8 := atD 0 l k
def Med.out (M : Med) (i : Nat) : List UInt8 := (List.range 2352).map fun k => if M.goneP i k = true then 0 else byteA (M.sec i).raw k ^^^ (M.sec i).ch k
/-- what Read answers: the bytes, the erased offsets, the error -/
def Med.readR (M : Med) (a : Int) : List UInt8 × List Int × Int :=
  if 0 ≤ a ∧ a < M.n then
    if (M.sec a.toNat).st = 0 then ([], [], 8) else if (M.sec a.toNat).st = 1 then (M.out a.toNat, M.gone a.toNat, 0) else ([], [], 9)
  else ([], [], 2)
def Med.cleanP (M : Med) (i : Nat) : Prop := (M.sec i).st = 1 ∧ M.gone i = [] ∧ ∀ k, k < 2352 → (M.sec i).ch k = 0
open Classical in
noncomputable def Med.cleanR (M : Med) (a : Int) : Bool := decide ((0 ≤ a ∧ a < M.n) ∧ M.cleanP a.toNat)
def Med.stateR (M : Med) (a : Int) : Int × Int := if 0 ≤ a ∧ a < M.n then ((M.sec a.toNat).st, 0) else (0, 2)
def Med.countR (M : Med) (a : Int) : Int × Int := if 0 ≤ a ∧ a < M.n then ((M.sec a.toNat).cnt, 0) else (0, 2)
/-- record or tear -/
def Med.write (M : Med) (i st : Nat) (raw : List UInt8) : Int × Med :=
  if M.kind = 0 then (15, M) else if M.kind = 1 ∧ (M.sec i).st ≠ 0 then (8, M)
  else if (M.sec i).cnt + 1 > M.endu then (16, M.put i { M.sec i with st := 3, cnt := (M.sec i).cnt + 1, raw := [], ch := fun _ => 0 })
  else (0, M.put i { M.sec i with st := st, cnt := (M.sec i).cnt + 1, raw := raw, ch := fun _ => 0 })
def Med.record (M : Med) (a : Int) (raw : List UInt8) : Int × Med := if 0 ≤ a ∧ a < M.n then (if raw.length = 2352 then M.write a.toNat 1 raw else (1, M)) else (2, M)
def Med.tear (M : Med) (a : Int) : Int × Med := if 0 ≤ a ∧ a < M.n then M.write a.toNat 2 [] else (2, M)
def Med.erase (M : Med) (a : Int) : Int × Med :=
  if 0 ≤ a ∧ a < M.n then (if M.kind ≠ 2 then (15, M) else if (M.sec a.toNat).st = 3 then (16, M) else (0, M.put a.toNat { M.sec a.toNat with st := 0, raw := [], ch := fun _ => 0 })) else (2, M)
def Med.scratch (M : Med) (l : List Sc) : Int × Med :=
  if fitA (98 * M.n + 108) l = false then (1, M) else if M.scr.length + l.length > 256 then (7, M) else (0, { M with scr := M.scr ++ l })
/-- damage -/
structure Dam where
  lba : Int
  er : List Int
  ch : List (Int × Int)
def erOk (l : List Int) (k : Nat) : Prop := (∀ i, i < k → 0 ≤ l.getD i 0 ∧ l.getD i 0 < 2352) ∧ ∀ i, i + 1 < k → l.getD i 0 < l.getD (i + 1) 0
def chOk1 (c : Int × Int) : Prop := (0 ≤ c.1 ∧ c.1 < 2352) ∧ 1 ≤ c.2 ∧ c.2 ≤ 255
def Dam.Ok (d : Dam) (n : Nat) : Prop := (0 ≤ d.lba ∧ d.lba < n) ∧ ((∀ x ∈ d.er, 0 ≤ x ∧ x < 2352) ∧ d.er.Pairwise (· < ·)) ∧ ∀ c ∈ d.ch, chOk1 c
def b8 (x : Int) : UInt8 := UInt8.ofNat (x % 256).toNat
def erF (f : Nat → Bool) (l : List Int) : Nat → Bool := fun k => f k || decide ((k : Int) ∈ l)
def ch1 (f : Nat → UInt8) (c : Int × Int) : Nat → UInt8 := fun k => if (k : Int) = c.1 then f k ^^^ b8 c.2 else f k
def chF (f : Nat → UInt8) (l : List (Int × Int)) : Nat → UInt8 := l.foldl ch1 f
theorem erF_nil (f : Nat → Bool) : erF f [] = f := by funext k; simp [erF]
theorem erF_snoc (f : Nat → Bool) (l : List Int) (x : Int) : erF f (l ++ [x]) = fun (k : Nat) => if (k : Int) = x then true else erF f l k := by
  funext k; by_cases h : (k : Int) = x <;> simp [erF, h]
theorem chF_snoc (f : Nat → UInt8) (l : List (Int × Int)) (c : Int × Int) : chF f (l ++ [c]) = ch1 (chF f l) c := by simp [chF]
open Classical in
noncomputable def Med.damage (M : Med) (d : Dam) : Int × Med :=
  if d.Ok M.n then (0, M.put d.lba.toNat { M.sec d.lba.toNat with er := erF (M.sec d.lba.toNat).er d.er, ch := chF (M.sec d.lba.toNat).ch d.ch }) else (1, M)

/-- a sector that calls have made, recorded at most 'N' times -/
structure Sec.Ok (s : Sec) (N : Nat) : Prop where
  st : s.st ≤ 3
  cnt : s.cnt ≤ N
  one : s.st = 1 → s.raw.length = 2352
  raw : s.raw.length ≤ 2352
  er : ∀ k, s.er k = true → k < 2352
  ch : ∀ k, s.ch k ≠ 0 → k < 2352
structure Med.Ok (M : Med) (N : Nat) : Prop where
  kind : M.kind ≤ 2
  endu : 1 ≤ M.endu ∧ M.endu ≤ 1048576
  n : 1 ≤ M.n ∧ M.n ≤ 4096
  sec : ∀ i, i < M.n → (M.sec i).Ok N
  scr : M.scr.length ≤ 256
  fit : fitA (98 * M.n + 108) M.scr = true
theorem Sec.Ok.mono {s : Sec} {N K : Nat} (h : s.Ok N) (hk : N ≤ K) : s.Ok K := ⟨h.st, Nat.le_trans h.cnt hk, h.one, h.raw, h.er, h.ch⟩
theorem Med.Ok.mono {M : Med} {N K : Nat} (h : M.Ok N) (hk : N ≤ K) : M.Ok K := ⟨h.kind, h.endu, h.n, fun i hi => (h.sec i hi).mono hk, h.scr, h.fit⟩
theorem Med.Ok.put {M : Med} {N : Nat} (h : M.Ok N) {i : Nat} {s : Sec} (hi : i < M.n) (hs : s.Ok N) : (M.put i s).Ok N := by
  refine ⟨h.kind, h.endu, by rw [Med.put_n]; exact h.n, fun k hk => ?_, h.scr, by rw [Med.put_n]; exact h.fit⟩
  rw [Med.put_n] at hk
  by_cases e : k = i
  · subst e; rw [Med.put_sec _ _ hi]; exact hs
  · rw [Med.put_other _ _ e]; exact h.sec k hk
theorem Med.Ok.write {M : Med} {N : Nat} (h : M.Ok N) {i st : Nat} {raw : List UInt8} (hi : i < M.n) (hst : st ≤ 3) (h1 : st = 1 → raw.length = 2352) (hr : raw.length ≤ 2352) : (M.write i st raw).2.Ok (N + 1) := by
  have hs := (h.sec i hi).mono (Nat.le_succ N)
  have hc := (h.sec i hi).cnt
  have hM := h.mono (Nat.le_succ N)
  unfold Med.write
  split
  · exact hM
  · split
    · exact hM
    · split
      · exact hM.put hi ⟨by simp, by simp only; omega, by simp, by simp, hs.er, by simp⟩
      · exact hM.put hi ⟨hst, by simp only; omega, h1, hr, hs.er, by simp⟩
theorem Med.Ok.record {M : Med} {N : Nat} (h : M.Ok N) (a : Int) (raw : List UInt8) : (M.record a raw).2.Ok (N + 1) := by
  have hM := h.mono (Nat.le_succ N)
  unfold Med.record
  split
  · split
    · exact h.write (by omega) (by omega) (fun _ => by assumption) (by omega)
    · exact hM
  · exact hM
theorem Med.Ok.tear {M : Med} {N : Nat} (h : M.Ok N) (a : Int) : (M.tear a).2.Ok (N + 1) := by
  have hM := h.mono (Nat.le_succ N)
  unfold Med.tear
  split
  · exact h.write (by omega) (by omega) (fun h => by omega) (by simp)
  · exact hM
theorem Med.Ok.erase {M : Med} {N : Nat} (h : M.Ok N) (a : Int) : (M.erase a).2.Ok N := by
  unfold Med.erase
  split
  · have hi : a.toNat < M.n := by omega
    have hs := h.sec _ hi
    split
    · exact h
    · split
      · exact h
      · exact h.put hi ⟨by simp, hs.cnt, by simp, by simp, hs.er, by simp⟩
  · exact h
theorem fitA_append (n : Nat) (l m : List Sc) : fitA n (l ++ m) = (fitA n l && fitA n m) := by simp [fitA]
theorem Med.Ok.scratch {M : Med} {N : Nat} (h : M.Ok N) (l : List Sc) : (M.scratch l).2.Ok N := by
  unfold Med.scratch
  split
  · exact h
  · split
    · exact h
    · refine ⟨h.kind, h.endu, h.n, h.sec, by simp only [List.length_append]; omega, ?_⟩
      show fitA (98 * M.n + 108) (M.scr ++ l) = true
      rw [fitA_append, h.fit]
      simp_all
theorem chF_lt : ∀ (l : List (Int × Int)) (f : Nat → UInt8), (∀ k, f k ≠ 0 → k < 2352) → (∀ c ∈ l, chOk1 c) → ∀ k, chF f l k ≠ 0 → k < 2352
  | [], f, hf, _, k, h => hf k h
  | c :: l, f, hf, hl, k, h => by
    refine chF_lt l (ch1 f c) (fun j hj => ?_) (fun c hc => hl c (.tail _ hc)) k h
    have := hl c (.head _)
    unfold chOk1 at this
    unfold ch1 at hj
    split at hj
    · omega
    · exact hf j hj
theorem Med.Ok.damage {M : Med} {N : Nat} (h : M.Ok N) (d : Dam) : (M.damage d).2.Ok N := by
  unfold Med.damage
  split
  · rename_i hd
    obtain ⟨h1, h2, h3⟩ := hd
    have hi : d.lba.toNat < M.n := by omega
    have hs := h.sec _ hi
    refine h.put hi ⟨hs.st, hs.cnt, hs.one, hs.raw, fun k hk => ?_, chF_lt _ _ hs.ch h3⟩
    simp only [erF, Bool.or_eq_true, decide_eq_true_eq] at hk
    rcases hk with hk | hk
    · exact hs.er k hk
    · have := h2.1 _ hk; omega
  · exact h
/-- a call: its kind, sector, byte, shortness, scratches and damage -/
structure AC where
  kind : Int
  at_ : Int
  byte : Int
  short : Bool
  scr : List Sc
  dam : Dam
def rawN (sh : Bool) : Nat := if sh = true then 2351 else 2352
def rawK (b : Int) (k : Nat) : List UInt8 := (List.range k).map fun i => b8 (b + (i % 7 : Nat))
def rawR (b : Int) (sh : Bool) : List UInt8 := rawK b (rawN sh)
theorem rawR_length (b : Int) (sh : Bool) : (rawR b sh).length = rawN sh := by simp [rawR, rawK]
theorem rawK_succ (b : Int) (k : Nat) : rawK b (k + 1) = rawK b k ++ [b8 (b + (k % 7 : Nat))] := by simp [rawK, List.range_succ]
noncomputable def Med.act (M : Med) (a : AC) : Int × Med :=
  if a.kind = 0 then M.record a.at_ (rawR a.byte a.short) else if a.kind = 1 then M.tear a.at_ else if a.kind = 2 then M.erase a.at_ else if a.kind = 3 then M.scratch a.scr else M.damage a.dam
theorem Med.Ok.act {M : Med} {N : Nat} (h : M.Ok N) (a : AC) : (M.act a).2.Ok (N + 1) := by
  unfold Med.act
  split
  · exact h.record _ _
  · split
    · exact h.tear _
    · split
      · exact (h.erase _).mono (Nat.le_succ _)
      · split
        · exact (h.scratch _).mono (Nat.le_succ _)
        · exact (h.damage _).mono (Nat.le_succ _)
noncomputable def Med.acts (M : Med) (l : List AC) : Med := l.foldl (fun M a => (M.act a).2) M
theorem Med.acts_snoc (M : Med) (l : List AC) (a : AC) : M.acts (l ++ [a]) = ((M.acts l).act a).2 := by simp [Med.acts]
/-- what New makes -/
def medNew (kind n endu : Nat) : Med := ⟨kind, endu, List.replicate n blank, []⟩
theorem medNew_sec (kind n endu i : Nat) : (medNew kind n endu).sec i = blank := by
  unfold Med.sec medNew atD
  simp only [List.getElem?_replicate]
  split <;> rfl
theorem medNew_ok {kind n endu : Nat} (hk : kind ≤ 2) (he : 1 ≤ endu ∧ endu ≤ 1048576) (hn : 1 ≤ n ∧ n ≤ 4096) : (medNew kind n endu).Ok 0 := by
  refine ⟨hk, he, by simpa [medNew, Med.n] using hn, fun i _ => ?_, by simp [medNew], by simp [medNew, fitA]⟩
  rw [medNew_sec]
  exact ⟨by simp [blank], by simp [blank], by simp [blank], by simp [blank], by simp [blank], by simp [blank]⟩
theorem mem_gone (M : Med) (i : Nat) (x : Int) : x ∈ M.gone i ↔ ∃ k : Nat, k < 2352 ∧ M.goneP i k = true ∧ x = k := by
  simp only [Med.gone, List.mem_map, List.mem_filter, List.mem_range]
  constructor
  · rintro ⟨k, ⟨h1, h2⟩, rfl⟩; exact ⟨k, h1, h2, rfl⟩
  · rintro ⟨k, h1, h2, rfl⟩; exact ⟨k, ⟨h1, h2⟩, rfl⟩
theorem gone_sorted (M : Med) (i : Nat) : (M.gone i).Pairwise (· < ·) := by
  unfold Med.gone
  rw [List.pairwise_map]
  exact (List.Pairwise.filter _ List.pairwise_lt_range).imp fun h => by simpa using h
theorem gone_bd (M : Med) (i : Nat) : ∀ x ∈ M.gone i, 0 ≤ x ∧ x < 2352 := fun x hx => by
  obtain ⟨k, h, _, rfl⟩ := (mem_gone M i x).1 hx; omega
/-- all erased offsets of the first 'k' sectors, counted over the surface -/
def Med.all (M : Med) : Nat → List Int
  | 0 => []
  | k + 1 => M.all k ++ (M.gone k).map fun x => 2352 * (k : Int) + x
theorem all_bd (M : Med) : ∀ k, ∀ x ∈ M.all k, 0 ≤ x ∧ x < 2352 * (k : Int)
  | 0, x, h => by simp [Med.all] at h
  | k + 1, x, h => by
    simp only [Med.all, List.mem_append, List.mem_map] at h
    rcases h with h | ⟨y, hy, rfl⟩
    · have := all_bd M k x h; omega
    · have := gone_bd M k y hy; omega
theorem all_sorted (M : Med) : ∀ k, (M.all k).Pairwise (· < ·)
  | 0 => List.Pairwise.nil
  | k + 1 => by
    simp only [Med.all]
    rw [List.pairwise_append]
    refine ⟨all_sorted M k, ?_, fun a ha b hb => ?_⟩
    · rw [List.pairwise_map]; exact (gone_sorted M k).imp fun h => by omega
    · obtain ⟨y, hy, rfl⟩ := List.mem_map.1 hb
      have := all_bd M k a ha
      have := gone_bd M k y hy
      omega
theorem mem_all (M : Med) (x : Int) : ∀ k, x ∈ M.all k ↔ ∃ i j : Nat, i < k ∧ j < 2352 ∧ M.goneP i j = true ∧ x = ((2352 * i + j : Nat) : Int)
  | 0 => by simp [Med.all]
  | k + 1 => by
    simp only [Med.all, List.mem_append, List.mem_map, mem_all M x k]
    constructor
    · rintro (⟨i, j, h1, h2, h3, h4⟩ | ⟨y, hy, rfl⟩)
      · exact ⟨i, j, by omega, h2, h3, h4⟩
      · obtain ⟨j, h1, h2, rfl⟩ := (mem_gone M k y).1 hy
        exact ⟨k, j, by omega, h1, h2, by omega⟩
    · rintro ⟨i, j, h1, h2, h3, rfl⟩
      by_cases e : i = k
      · subst e
        exact .inr ⟨j, (mem_gone M i j).2 ⟨j, h2, h3, rfl⟩, by omega⟩
      · exact .inl ⟨i, j, by omega, h2, h3, rfl⟩
theorem sorted_eq {l m : List Int} (hl : l.Pairwise (· < ·)) (hm : m.Pairwise (· < ·)) (h : ∀ z, z ∈ l ↔ z ∈ m) : l = m := by
  have hln : l.Nodup := hl.imp fun h e => by omega
  have hmn : m.Nodup := hm.imp fun h e => by omega
  exact ((List.perm_ext_iff_of_nodup hln hmn).2 h).eq_of_pairwise (le := (· ≤ ·)) (fun a b _ _ h1 h2 => by omega) (hl.imp Int.le_of_lt) (hm.imp Int.le_of_lt)
/-- where no damage is, the erased offsets are the lost bytes -/
theorem all_lost (M : Med) (h : ∀ i k, (M.sec i).er k = false) : M.all M.n = lostL M.n M.scr := by
  refine sorted_eq (all_sorted M _) (lostN_sorted _ _) fun z => ?_
  rw [mem_all]
  constructor
  · rintro ⟨i, j, _, _, h3, rfl⟩
    unfold Med.goneP at h3
    rw [h, Bool.false_or] at h3
    exact of_decide_eq_true h3
  · intro hz
    have hb := lostN_bd _ _ z hz
    obtain ⟨y, rfl⟩ : ∃ y : Nat, z = y := ⟨z.toNat, by omega⟩
    refine ⟨y / 2352, y % 2352, by omega, by omega, ?_, by congr 1; omega⟩
    have e : 2352 * (y / 2352) + y % 2352 = y := by omega
    unfold Med.goneP lostP
    rw [h, Bool.false_or, e]
    exact decide_eq_true hz
theorem out_length (M : Med) (i : Nat) : (M.out i).length = 2352 := by simp [Med.out]
end Go.Proofs.Ytpncjadhpnapnaa.D12
