/- Plain laws of numbers laid down in bytes: how they are laid down, how they are read; no program in sight. -/
import Derived.Laws.BitsAllLaws
import Derived.Laws.Bits128
import Derived.Laws.Bits64b
import Derived.RowKit
namespace Go.Proofs.Yteanncfmaomhaaa.Pk
open Go
set_option linter.unusedVariables false
set_option linter.unusedSimpArgs false

/-- How a number is laid down. -/
def encN (n : Nat) : List Int := if h : n < 128 then [(n : Int)] else (((n % 128 : Nat) : Int) + 128) :: encN (n / 128)
termination_by n
decreasing_by omega
def enc (n : Int) : List Int := encN n.toNat
/-- How one is read: what it is, the error, what is left. -/
def dec : Nat → List Int → Int × Int × List Int
  | i, [] => (0, if i = 10 then 5 else 4, [])
  | i, c :: t => if i = 10 then (0, 5, []) else if i = 9 ∧ 1 < c % 128 then (0, 5, []) else if 128 ≤ c then (c % 128 + 128 * (dec (i + 1) t).1, (dec (i + 1) t).2.1, (dec (i + 1) t).2.2)
    else if c = 0 ∧ 1 ≤ i then (0, 5, []) else (c, 0, t)
def rdU (xs : List Int) : Int × Int × List Int := if (dec 0 xs).2.1 = 0 then dec 0 xs else (0, (dec 0 xs).2.1, xs)
def Byt (xs : List Int) : Prop := ∀ x ∈ xs, 0 ≤ x ∧ x < 256

theorem encN_lt {n : Nat} (h : n < 128) : encN n = [(n : Int)] := by rw [encN, dif_pos h]
theorem encN_ge {n : Nat} (h : ¬ n < 128) : encN n = (((n % 128 : Nat) : Int) + 128) :: encN (n / 128) := by rw [encN, dif_neg h]
theorem enc_lt {n : Int} (h0 : 0 ≤ n) (h : n < 128) : enc n = [n] := by
  unfold enc
  rw [encN_lt (by omega)]
  congr 1
  omega
theorem enc_ge {n : Int} (h : 128 ≤ n) : enc n = (n % 128 + 128) :: enc (n / 128) := by
  unfold enc
  rw [encN_ge (by omega)]
  congr 1
  · omega
  · congr 1
    omega
theorem encN_byt (n : Nat) : Byt (encN n) := by
  induction n using Nat.strongRecOn with
  | _ n ih =>
    intro x hx
    by_cases h : n < 128
    · rw [encN_lt h] at hx
      simp at hx
      omega
    · rw [encN_ge h] at hx
      rcases List.mem_cons.1 hx with rfl | hx
      · omega
      · exact ih (n / 128) (by omega) x hx
theorem enc_byt (n : Int) : Byt (enc n) := encN_byt _
theorem encN_pos (n : Nat) : 1 ≤ (encN n).length := by
  by_cases h : n < 128
  · rw [encN_lt h]; simp
  · rw [encN_ge h]; simp
theorem enc_pos (n : Int) : 1 ≤ (enc n).length := encN_pos _
theorem encN_mono (n : Nat) : ∀ m, n ≤ m → (encN n).length ≤ (encN m).length := by
  induction n using Nat.strongRecOn with
  | _ n ih =>
    intro m hm
    by_cases h : n < 128
    · rw [encN_lt h]
      exact encN_pos m
    · rw [encN_ge h, encN_ge (show ¬ m < 128 by omega)]
      simp only [List.length_cons]
      have := ih (n / 128) (by omega) (m / 128) (Nat.div_le_div_right hm)
      omega
theorem enc_mono {n m : Int} (h : n ≤ m) : (enc n).length ≤ (enc m).length := encN_mono _ _ (by omega)
theorem encN_len (k : Nat) : ∀ n, n < 128 ^ k * 128 → (encN n).length ≤ k + 1 := by
  induction k with
  | zero =>
    intro n hn
    rw [encN_lt (by omega)]
    simp
  | succ k ih =>
    intro n hn
    by_cases h : n < 128
    · rw [encN_lt h]; simp
    · rw [encN_ge h]
      simp only [List.length_cons]
      have := ih (n / 128) (by
        rw [Nat.pow_succ] at hn
        omega)
      omega
theorem enc_len {n : Int} (h : n < 18446744073709551616) : (enc n).length ≤ 10 := encN_len 9 _ (by
  have : (128 : Nat) ^ 9 * 128 = 1180591620717411303424 := by decide
  omega)

/-- What was laid down is read. -/
theorem dec_encN (k : Nat) : ∀ (n i : Nat) (t : List Int), i + k = 9 → n < 128 ^ k * 2 → (i = 0 ∨ 0 < n) → dec i (encN n ++ t) = ((n : Int), 0, t) := by
  induction k with
  | zero =>
    intro n i t hi hn h0
    obtain rfl : i = 9 := by omega
    have hn' : n < 2 := by simpa using hn
    rw [encN_lt (by omega)]
    simp only [List.singleton_append, dec]
    rw [if_neg (by omega), if_neg (by omega), if_neg (by omega), if_neg (by omega)]
  | succ k ih =>
    intro n i t hi hn h0
    by_cases h : n < 128
    · rw [encN_lt h]
      simp only [List.singleton_append, dec]
      rw [if_neg (by omega), if_neg (by omega), if_neg (by omega), if_neg (by omega)]
    · rw [encN_ge h]
      simp only [List.cons_append, dec]
      rw [if_neg (by omega), if_neg (by omega), if_pos (by omega)]
      rw [ih (n / 128) (i + 1) t (by omega) (by rw [Nat.pow_succ] at hn; omega) (.inr (by omega))]
      simp only [Prod.mk.injEq, and_true]
      omega
theorem dec_enc {n : Int} (h0 : 0 ≤ n) (h : n < 18446744073709551616) (t : List Int) : dec 0 (enc n ++ t) = (n, 0, t) := by
  have := dec_encN 9 n.toNat 0 t (by omega) (by
    have : (128 : Nat) ^ 9 * 2 = 18446744073709551616 := by decide
    omega) (.inl rfl)
  unfold enc
  rw [this]
  congr 1
  omega
theorem rdU_enc {n : Int} (h0 : 0 ≤ n) (h : n < 18446744073709551616) (t : List Int) : rdU (enc n ++ t) = (n, 0, t) := by
  unfold rdU
  rw [dec_enc h0 h]
  rfl
/-- A beginning of what was laid down ends too early. -/
theorem dec_take (k : Nat) : ∀ (n i : Nat), k < (encN n).length → i + k ≤ 9 → (dec i ((encN n).take k)).2.1 = 4 := by
  induction k with
  | zero =>
    intro n i _ hi
    simp only [List.take_zero, dec]
    rw [if_neg (by omega)]
  | succ k ih =>
    intro n i hk hi
    by_cases h : n < 128
    · rw [encN_lt h] at hk
      simp at hk
    · rw [encN_ge h] at hk ⊢
      simp only [List.length_cons] at hk
      simp only [List.take_succ_cons, dec]
      rw [if_neg (by omega), if_neg (by omega), if_pos (by omega)]
      exact ih (n / 128) (i + 1) (by omega) (by omega)
theorem rdU_take {n : Int} {k : Nat} (hk : k < (enc n).length) (h : n < 18446744073709551616) : rdU ((enc n).take k) = (0, 4, (enc n).take k) := by
  have hl := enc_len h
  have := dec_take k n.toNat 0 hk (by omega)
  unfold rdU
  have e : dec 0 ((enc n).take k) = dec 0 ((encN n.toNat).take k) := rfl
  rw [e, this, if_neg (by omega)]
theorem rdU_enc1 {n : Int} (h0 : 0 ≤ n) (h : n < 18446744073709551616) : rdU (enc n) = (n, 0, []) := by
  have := rdU_enc h0 h []
  rwa [List.append_nil] at this
theorem rdU_nil : rdU [] = (0, 4, []) := by simp [rdU, dec]

/-- What is read was laid down. -/
theorem dec_back (k : Nat) : ∀ (i : Nat) (xs : List Int), i + k = 9 → Byt xs → (dec i xs).2.1 = 0 →
    0 ≤ (dec i xs).1 ∧ (dec i xs).1 < 128 ^ k * 2 ∧ (0 < i → 0 < (dec i xs).1) ∧ xs = enc (dec i xs).1 ++ (dec i xs).2.2 := by
  induction k with
  | zero =>
    intro i xs hi hb h
    obtain rfl : i = 9 := by omega
    cases xs with
    | nil => simp [dec] at h
    | cons c t =>
      have hc := hb c (by simp)
      simp only [dec] at h ⊢
      rw [if_neg (by omega)] at h ⊢
      by_cases h1 : 1 < c % 128
      · rw [if_pos ⟨trivial, h1⟩] at h
        simp at h
      · rw [if_neg (by omega)] at h ⊢
        by_cases h2 : 128 ≤ c
        · rw [if_pos h2] at h
          have : (dec (9 + 1) t).2.1 ≠ 0 := by cases t <;> simp [dec]
          exact absurd h this
        · rw [if_neg h2] at h ⊢
          by_cases h3 : c = 0
          · rw [if_pos ⟨h3, by omega⟩] at h
            simp at h
          · rw [if_neg (by omega)] at h ⊢
            refine ⟨by omega, by simp; omega, fun _ => by simp; omega, ?_⟩
            rw [enc_lt (by simp; omega) (by simp; omega)]
            rfl
  | succ k ih =>
    intro i xs hi hb h
    cases xs with
    | nil =>
      simp only [dec] at h
      split at h <;> simp at h
    | cons c t =>
      have hc := hb c (by simp)
      have hbt : Byt t := fun x hx => hb x (List.mem_cons_of_mem _ hx)
      simp only [dec] at h ⊢
      rw [if_neg (by omega), if_neg (by omega)] at h ⊢
      by_cases h2 : 128 ≤ c
      · rw [if_pos h2] at h ⊢
        obtain ⟨g0, g1, g2, g3⟩ := ih (i + 1) t (by omega) hbt h
        have hp := g2 (by omega)
        generalize dec (i + 1) t = r at *
        obtain ⟨m, e, rest⟩ := r
        simp only at *
        refine ⟨by omega, ?_, fun _ => by omega, ?_⟩
        · rw [Int.pow_succ]
          omega
        · rw [enc_ge (by omega), List.cons_append, show (c % 128 + 128 * m) % 128 + 128 = c by omega, show (c % 128 + 128 * m) / 128 = m by omega, ← g3]
      · rw [if_neg h2] at h ⊢
        have hk : (0 : Int) < 128 ^ k := by
          have : (0 : Nat) < 128 ^ k := Nat.pow_pos (by omega)
          exact_mod_cast this
        by_cases h3 : c = 0 ∧ 1 ≤ i
        · rw [if_pos h3] at h
          simp at h
        · rw [if_neg h3] at h ⊢
          refine ⟨by simp; omega, by rw [Int.pow_succ]; simp; omega, fun _ => by simp; omega, ?_⟩
          rw [enc_lt (by simp; omega) (by simp; omega)]
          rfl
theorem dec_is {xs : List Int} (hb : Byt xs) (h : (dec 0 xs).2.1 = 0) : 0 ≤ (dec 0 xs).1 ∧ (dec 0 xs).1 < 18446744073709551616 ∧ xs = enc (dec 0 xs).1 ++ (dec 0 xs).2.2 := by
  obtain ⟨g0, g1, _, g3⟩ := dec_back 9 0 xs (by omega) hb h
  have e : (128 : Int) ^ 9 * 2 = 18446744073709551616 := by decide
  rw [e] at g1
  exact ⟨g0, g1, g3⟩
theorem rdU_is {xs : List Int} (hb : Byt xs) (h : (rdU xs).2.1 = 0) : 0 ≤ (rdU xs).1 ∧ (rdU xs).1 < 18446744073709551616 ∧ xs = enc (rdU xs).1 ++ (rdU xs).2.2 := by
  unfold rdU at h ⊢
  by_cases h0 : (dec 0 xs).2.1 = 0
  · rw [if_pos h0] at h ⊢
    exact dec_is hb h0
  · rw [if_neg h0] at h
    exact absurd h h0
theorem rdU_bad {xs : List Int} (h : (rdU xs).2.1 ≠ 0) : rdU xs = (0, (rdU xs).2.1, xs) := by
  unfold rdU at h ⊢
  by_cases h0 : (dec 0 xs).2.1 = 0
  · rw [if_pos h0] at h
    exact absurd h0 h
  · rw [if_neg h0]

theorem rdU_range {xs : List Int} (hb : Byt xs) : 0 ≤ (rdU xs).1 ∧ (rdU xs).1 < 18446744073709551616 := by
  by_cases h : (rdU xs).2.1 = 0
  · have := rdU_is hb h
    exact ⟨this.1, this.2.1⟩
  · rw [rdU_bad h]
    simp
theorem dec_len (xs : List Int) : ∀ i, (dec i xs).2.2.length ≤ xs.length := by
  induction xs with
  | nil => intro i; simp [dec]
  | cons c t ih =>
    intro i
    simp only [dec]
    split
    · simp
    · split
      · simp
      · split
        · have := ih (i + 1)
          simp only [List.length_cons]
          omega
        · split <;> simp
theorem rdU_len (xs : List Int) : (rdU xs).2.2.length ≤ xs.length := by
  unfold rdU
  split
  · exact dec_len xs 0
  · exact Nat.le_refl _
/-- A signed number out of the one that was laid down for it, and back. -/
def sgn (n : Int) : Int := if n % 2 = 1 then - (n / 2) - 1 else n / 2
def uns (n : Int) : Int := if n < 0 then - 2 * n - 1 else 2 * n
theorem sgn_uns (n : Int) : sgn (uns n) = n := by
  unfold sgn uns
  split <;> split <;> omega
theorem uns_sgn {n : Int} (h : 0 ≤ n) : uns (sgn n) = n := by
  unfold sgn uns
  split <;> split <;> omega
theorem uns_range {n : Int} (h0 : -9223372036854775808 ≤ n) (h1 : n ≤ 9223372036854775807) : 0 ≤ uns n ∧ uns n < 18446744073709551616 := by
  unfold uns
  split <;> omega
theorem sgn_range {n : Int} (h0 : 0 ≤ n) (h1 : n < 18446744073709551616) : -9223372036854775808 ≤ sgn n ∧ sgn n ≤ 9223372036854775807 := by
  unfold sgn
  split <;> omega

theorem rdU_less {xs : List Int} (hb : Byt xs) (h : (rdU xs).2.1 = 0) : (rdU xs).2.2.length < xs.length := by
  obtain ⟨_, _, h3⟩ := rdU_is hb h
  have := congrArg List.length h3
  rw [List.length_append] at this
  have := enc_pos (rdU xs).1
  omega
theorem rdU_byt {xs : List Int} (hb : Byt xs) : Byt (rdU xs).2.2 := by
  by_cases h : (rdU xs).2.1 = 0
  · obtain ⟨_, _, h3⟩ := rdU_is hb h
    intro x hx
    exact hb x (by rw [h3]; exact List.mem_append_right _ hx)
  · rw [rdU_bad h]
    exact hb
/-- So many signed numbers are read. -/
def rdIs : Nat → List Int → List Int × Int × List Int
  | 0, xs => ([], 0, xs)
  | k + 1, xs => if (rdU xs).2.1 ≠ 0 then ([], (rdU xs).2.1, xs) else if sgn (rdU xs).1 < -2147483648 ∨ 2147483647 < sgn (rdU xs).1 then ([], 2, xs)
    else (sgn (rdU xs).1 :: (rdIs k (rdU xs).2.2).1, (rdIs k (rdU xs).2.2).2.1, (rdIs k (rdU xs).2.2).2.2)
/-- What a loop over them knows: l came, k are to come, out of r. -/
def InvI (N : Nat) (r0 : List Int) (l : List Int) (k : Nat) (r : List Int) : Prop := rdIs N r0 = (l ++ (rdIs k r).1, (rdIs k r).2.1, (rdIs k r).2.2)
theorem invI_zero (N : Nat) (r0 : List Int) : InvI N r0 [] N r0 := by
  unfold InvI
  simp
theorem invI_next {N k : Nat} {r0 l r : List Int} (h : InvI N r0 l (k + 1) r) (h0 : (rdU r).2.1 = 0) (h1 : -2147483648 ≤ sgn (rdU r).1) (h2 : sgn (rdU r).1 ≤ 2147483647) : InvI N r0 (l ++ [sgn (rdU r).1]) k (rdU r).2.2 := by
  unfold InvI at h ⊢
  rw [h, rdIs, if_neg (by simpa using h0), if_neg (by omega)]
  simp
theorem invI_bad {N k : Nat} {r0 l r : List Int} (h : InvI N r0 l (k + 1) r) (h0 : (rdU r).2.1 ≠ 0) : (rdIs N r0).2.1 = (rdU r).2.1 := by
  unfold InvI at h
  rw [h, rdIs, if_pos h0]
theorem invI_wide {N k : Nat} {r0 l r : List Int} (h : InvI N r0 l (k + 1) r) (h0 : (rdU r).2.1 = 0) (h1 : sgn (rdU r).1 < -2147483648 ∨ 2147483647 < sgn (rdU r).1) : (rdIs N r0).2.1 = 2 := by
  unfold InvI at h
  rw [h, rdIs, if_neg (by simpa using h0), if_pos h1]
theorem invI_end {N : Nat} {r0 l r : List Int} (h : InvI N r0 l 0 r) : rdIs N r0 = (l, 0, r) := by
  unfold InvI at h
  rw [h, rdIs]
  simp
/-- Numbers are read: at most m. -/
def rdL (m : Int) (xs : List Int) : List Int × Int × List Int :=
  if (rdU xs).2.1 ≠ 0 then ([], (rdU xs).2.1, xs) else if m < 0 ∨ m < (rdU xs).1 then ([], 2, xs)
  else if (rdIs (rdU xs).1.toNat (rdU xs).2.2).2.1 ≠ 0 then ([], (rdIs (rdU xs).1.toNat (rdU xs).2.2).2.1, xs) else rdIs (rdU xs).1.toNat (rdU xs).2.2

def rdB (xs : List Int) : List Int × Int × List Int :=
  if (rdU xs).2.1 ≠ 0 then ([], (rdU xs).2.1, xs) else if ((rdU xs).2.2.length : Int) < (rdU xs).1 then ([], 4, xs)
  else ((rdU xs).2.2.take (rdU xs).1.toNat, 0, (rdU xs).2.2.drop (rdU xs).1.toNat)
theorem rdB_enc (x t : List Int) (hx : x.length < 9223372036854775808) : rdB (enc x.length ++ (x ++ t)) = (x, 0, t) := by
  unfold rdB
  rw [rdU_enc (by omega) (by omega)]
  simp only
  rw [if_neg (by simp), if_neg (by rw [List.length_append]; omega), Int.toNat_natCast, List.take_left, List.drop_left]
/-- Signed numbers one behind the other. -/
def uenc (l : List Int) : List Int := l.flatMap (fun n => enc (uns n))
theorem uenc_cons (n : Int) (l : List Int) : uenc (n :: l) = enc (uns n) ++ uenc l := rfl
theorem uenc_byt (l : List Int) : Byt (uenc l) := by
  intro x hx
  obtain ⟨n, _, h⟩ := List.mem_flatMap.1 hx
  exact enc_byt _ x h
theorem uenc_len {l : List Int} (h : ∀ n ∈ l, -9223372036854775808 ≤ n ∧ n ≤ 9223372036854775807) : (uenc l).length ≤ 10 * l.length := by
  induction l with
  | nil => simp [uenc]
  | cons n l ih =>
    rw [uenc_cons, List.length_append, List.length_cons]
    have h0 := h n (by simp)
    have h1 := enc_len (uns_range h0.1 h0.2).2
    have h2 := ih (fun m hm => h m (List.mem_cons_of_mem _ hm))
    omega
theorem rdU_uenc {n : Int} (h0 : -9223372036854775808 ≤ n) (h1 : n ≤ 9223372036854775807) (t : List Int) : rdU (enc (uns n) ++ t) = (uns n, 0, t) := rdU_enc (uns_range h0 h1).1 (uns_range h0 h1).2 t
theorem rdIs_uenc {l : List Int} (h : ∀ n ∈ l, -2147483648 ≤ n ∧ n ≤ 2147483647) (t : List Int) : rdIs l.length (uenc l ++ t) = (l, 0, t) := by
  induction l with
  | nil => rfl
  | cons n l ih =>
    have h0 := h n (by simp)
    rw [uenc_cons, List.length_cons, List.append_assoc, rdIs, rdU_uenc (by omega) (by omega)]
    simp only
    rw [if_neg (by simp), sgn_uns, if_neg (by omega), ih (fun m hm => h m (List.mem_cons_of_mem _ hm))]
theorem rdL_enc {l : List Int} (h : ∀ n ∈ l, -2147483648 ≤ n ∧ n ≤ 2147483647) (hl : l.length < 9223372036854775808) {m : Int} (hm : (l.length : Int) ≤ m) (t : List Int) : rdL m (enc l.length ++ (uenc l ++ t)) = (l, 0, t) := by
  unfold rdL
  rw [rdU_enc (by omega) (by omega)]
  simp only
  rw [if_neg (by simp), if_neg (by omega), Int.toNat_natCast, rdIs_uenc h, if_neg (by simp)]

theorem rdB_len (xs : List Int) : (rdB xs).2.2.length ≤ xs.length := by
  have h := rdU_len xs
  unfold rdB
  split
  · exact Nat.le_refl _
  · split
    · exact Nat.le_refl _
    · simp only [List.length_drop]
      omega
theorem rdIs_len (k : Nat) : ∀ xs : List Int, (rdIs k xs).2.2.length ≤ xs.length := by
  induction k with
  | zero => intro xs; exact Nat.le_refl _
  | succ k ih =>
    intro xs
    rw [rdIs]
    split
    · exact Nat.le_refl _
    · split
      · exact Nat.le_refl _
      · exact Nat.le_trans (ih _) (rdU_len xs)
theorem rdL_len (m : Int) (xs : List Int) : (rdL m xs).2.2.length ≤ xs.length := by
  unfold rdL
  split
  · exact Nat.le_refl _
  · split
    · exact Nat.le_refl _
    · split
      · exact Nat.le_refl _
      · exact Nat.le_trans (rdIs_len _ _) (rdU_len xs)

/-- What a reader knows after i bytes of which n came. -/
def Inv (xs : List Int) (i : Nat) (n : Int) : Prop :=
  0 ≤ n ∧ n < 128 ^ i ∧ (dec 0 xs).2.1 = (dec i (xs.drop i)).2.1 ∧ ((dec i (xs.drop i)).2.1 = 0 → dec 0 xs = (n + 128 ^ i * (dec i (xs.drop i)).1, 0, (dec i (xs.drop i)).2.2))
theorem inv_zero (xs : List Int) : Inv xs 0 0 := by
  refine ⟨by omega, by simp, rfl, fun h => ?_⟩
  simp only [List.drop_zero] at h ⊢
  simp only [Int.pow_zero, Int.zero_add, Int.one_mul]
  rw [← h]
theorem drop_at {xs : List Int} {i : Nat} {c : Int} (hc : xs[i]? = some c) : xs.drop i = c :: xs.drop (i + 1) := by
  obtain ⟨h, rfl⟩ := List.getElem?_eq_some_iff.1 hc
  exact List.drop_eq_getElem_cons h
theorem inv_next {xs : List Int} {i : Nat} {n c : Int} (h : Inv xs i n) (hc : xs[i]? = some c) (hi : i < 10) (h9 : i = 9 → c % 128 ≤ 1) (hg : 128 ≤ c) : Inv xs (i + 1) (n + 128 ^ i * (c % 128)) := by
  obtain ⟨h0, h1, h2, h3⟩ := h
  rw [drop_at hc] at h2 h3
  have e : dec i (c :: xs.drop (i + 1)) = (c % 128 + 128 * (dec (i + 1) (xs.drop (i + 1))).1, (dec (i + 1) (xs.drop (i + 1))).2.1, (dec (i + 1) (xs.drop (i + 1))).2.2) := by
    simp only [dec]
    rw [if_neg (by omega), if_neg (fun h => by have := h9 h.1; omega), if_pos hg]
  rw [e] at h2 h3
  have hp : (0 : Int) < 128 ^ i := by
    have : (0 : Nat) < 128 ^ i := Nat.pow_pos (by omega)
    exact_mod_cast this
  refine ⟨?_, ?_, h2, fun hz => ?_⟩
  · have : 0 ≤ 128 ^ i * (c % 128) := Int.mul_nonneg (by omega) (by omega)
    omega
  · rw [Int.pow_succ]
    have : 128 ^ i * (c % 128) ≤ 128 ^ i * 127 := Int.mul_le_mul_of_nonneg_left (by omega) (by omega)
    omega
  · rw [h3 hz]
    simp only [Prod.mk.injEq, and_true]
    rw [Int.pow_succ, Int.mul_add, Int.mul_assoc, Int.add_assoc]
theorem inv_bad {xs : List Int} {i : Nat} {n e : Int} (h : Inv xs i n) (he : (dec i (xs.drop i)).2.1 = e) (h0 : e ≠ 0) : rdU xs = (0, e, xs) := by
  obtain ⟨_, _, h2, _⟩ := h
  unfold rdU
  rw [h2, he, if_neg h0]
theorem inv_good {xs : List Int} {i : Nat} {n c : Int} (h : Inv xs i n) (hc : xs[i]? = some c) (hi : i < 10) (h9 : i = 9 → c % 128 ≤ 1) (h0 : 0 ≤ c) (hg : c < 128) (hz : ¬ (c = 0 ∧ 1 ≤ i)) : rdU xs = (n + 128 ^ i * c, 0, xs.drop (i + 1)) := by
  obtain ⟨_, h1, h2, h3⟩ := h
  rw [drop_at hc] at h2 h3
  have e : dec i (c :: xs.drop (i + 1)) = (c, 0, xs.drop (i + 1)) := by
    simp only [dec]
    rw [if_neg (by omega), if_neg (fun h => by have := h9 h.1; omega), if_neg (by omega), if_neg hz]
  rw [e] at h2 h3
  unfold rdU
  rw [if_pos h2]
  exact h3 rfl
theorem inv_end {xs : List Int} {i : Nat} {n : Int} (h : Inv xs i n) (hi : i = xs.length) : rdU xs = (0, if i = 10 then 5 else 4, xs) := by
  have hd : xs.drop i = [] := by simp [hi]
  refine inv_bad h (e := if i = 10 then 5 else 4) (by rw [hd]; rfl) (by split <;> omega)
theorem inv_ten {xs : List Int} {i : Nat} {n c : Int} (h : Inv xs i n) (hc : xs[i]? = some c) (hi : i = 10) : rdU xs = (0, 5, xs) :=
  inv_bad h (by rw [drop_at hc]; simp [dec, hi]) (by omega)
theorem inv_nine {xs : List Int} {i : Nat} {n c : Int} (h : Inv xs i n) (hc : xs[i]? = some c) (hi : i = 9) (h1 : 1 < c % 128) : rdU xs = (0, 5, xs) :=
  inv_bad h (by rw [drop_at hc]; simp only [dec]; rw [if_neg (by omega), if_pos ⟨hi, h1⟩]) (by omega)
theorem inv_null {xs : List Int} {i : Nat} {n c : Int} (h : Inv xs i n) (hc : xs[i]? = some c) (hi : i < 10) (hz : c = 0) (h1 : 1 ≤ i) : rdU xs = (0, 5, xs) :=
  inv_bad h (by rw [drop_at hc]; simp only [dec]; rw [if_neg (by omega), if_neg (by omega), if_neg (by omega), if_pos ⟨hz, h1⟩]) (by omega)

/-- Numbers one behind the other. -/
def encs (l : List Int) : List Int := l.flatMap enc
theorem encs_nil : encs [] = [] := rfl
theorem encs_cons (n : Int) (l : List Int) : encs (n :: l) = enc n ++ encs l := rfl
theorem encs_append (a b : List Int) : encs (a ++ b) = encs a ++ encs b := by simp [encs]
theorem encs_take {l : List Int} {k : Nat} {n : Int} (h : l[k]? = some n) : encs (l.take (k + 1)) = encs (l.take k) ++ enc n := by
  obtain ⟨hk, rfl⟩ := List.getElem?_eq_some_iff.1 h
  rw [List.take_succ_eq_append_getElem hk, encs_append, encs_cons, encs_nil, List.append_nil]
theorem encs_byt (l : List Int) : Byt (encs l) := by
  intro x hx
  obtain ⟨n, _, h⟩ := List.mem_flatMap.1 hx
  exact enc_byt n x h
theorem encs_len {l : List Int} (h : ∀ n ∈ l, n < 18446744073709551616) : (encs l).length ≤ 10 * l.length := by
  induction l with
  | nil => simp [encs]
  | cons n l ih =>
    rw [encs_cons, List.length_append, List.length_cons]
    have h1 := enc_len (h n (by simp))
    have h2 := ih (fun m hm => h m (List.mem_cons_of_mem _ hm))
    omega

/-! Bits. -/
theorem and128 (q : Int) (h0 : 0 ≤ q) (h1 : q < 256) : (bits .and .u8 q 128 != 0) = decide (128 ≤ q) := by
  rw [u8_and q 128 h0 h1 (by omega) (by omega)]
  have : ∀ m : Nat, m < 256 → (((m &&& (128 : Int).toNat : Nat) : Int) != 0) = decide (128 ≤ m) := by decide +kernel
  rw [this q.toNat (by omega)]
  rw [decide_eq_decide]
  omega
theorem not128 (q : Int) (h0 : 0 ≤ q) (h1 : q < 256) : bits .andNot .u8 q 128 = q % 128 := by
  rw [u8_andNot q 128 h0 h1 (by omega) (by omega)]
  have : ∀ m : Nat, m < 256 → (m &&& (255 - (128 : Int).toNat) : Nat) = m % 128 := by decide +kernel
  rw [this q.toNat (by omega)]
  omega
theorem wrap_u64 {n : Int} (h0 : 0 ≤ n) (h : n < 18446744073709551616) : IntKind.u64.wrap n = n := by
  rw [IntKind.wrap_u64]
  omega
theorem or_shift (n p : Int) (i : Nat) (h0 : 0 ≤ n) (h : n < 128 ^ i) (p0 : 0 ≤ p) (hs : n + 128 ^ i * p < 18446744073709551616) : bits .or .u64 n (IntKind.u64.wrap (p * 2 ^ (7 * i))) = n + 128 ^ i * p := by
  have e : (2 : Int) ^ (7 * i) = 128 ^ i := by rw [Int.pow_mul]; rfl
  rw [e, Int.mul_comm p]
  obtain ⟨p, rfl⟩ := Int.eq_ofNat_of_zero_le p0
  obtain ⟨n, rfl⟩ := Int.eq_ofNat_of_zero_le h0
  have hc : (128 : Int) ^ i * (p : Int) = ((2 ^ (7 * i) * p : Nat) : Int) := by
    rw [← e]
    push_cast
    rfl
  rw [hc] at hs ⊢
  have hn : n < 2 ^ (7 * i) := by
    rw [← e] at h
    exact_mod_cast h
  rw [wrap_u64 (by omega) (by omega), bits_or_u64_nat _ _ (by omega) (by omega), Nat.or_comm, ← Nat.two_pow_add_eq_or_of_lt hn]
  push_cast
  omega
theorem and1 {n : Int} (h0 : 0 ≤ n) (h : n < 18446744073709551616) : bits .and .u64 n 1 = n % 2 := by
  obtain ⟨n, rfl⟩ := Int.eq_ofNat_of_zero_le h0
  have := bits_and_u64_nat n 1 (by omega) (by omega)
  rw [Nat.and_one_is_mod] at this
  have e : ((1 : Nat) : Int) = 1 := rfl
  rw [e] at this
  rw [this]
  push_cast
  rfl
theorem xor_comm64 (k : IntKind) (a b : Int) : bits .xor k a b = bits .xor k b a := by
  simp only [bits, BitVec.xor_comm]
theorem xor_zero_i64 {a : Int} (h0 : 0 ≤ a) (h : a < 9223372036854775808) : bits .xor .i64 a 0 = a := by
  obtain ⟨a, rfl⟩ := Int.eq_ofNat_of_zero_le h0
  have h1 : (BitVec.ofInt 64 (a : Int)).toNat = a := by
    rw [BitVec.ofInt_natCast, BitVec.toNat_ofNat]; exact Nat.mod_eq_of_lt (by omega)
  show IntKind.i64.wrap ((BitVec.ofInt 64 (a : Int) ^^^ BitVec.ofInt 64 (0 : Int)).toNat : Int) = _
  rw [BitVec.toNat_xor, h1]
  have h2 : (BitVec.ofInt 64 (0 : Int)).toNat = 0 := by decide
  rw [h2, Nat.xor_zero]
  simp [IntKind.wrap, IntKind.bits, IntKind.signed, Int.bmod]
  omega
theorem i64_not (a : Nat) (ha : a < 9223372036854775808) : bits .xor .i64 (-1) (a : Int) = -1 - (a : Int) := by
  have h1 : (BitVec.ofInt 64 (a : Int)).toNat = a := by
    rw [BitVec.ofInt_natCast, BitVec.toNat_ofNat]; exact Nat.mod_eq_of_lt (by omega)
  have h2 : BitVec.ofInt 64 (-1) = BitVec.allOnes 64 := by decide
  show IntKind.i64.wrap ((BitVec.ofInt 64 (-1 : Int) ^^^ BitVec.ofInt 64 (a : Int)).toNat : Int) = _
  rw [h2, BitVec.allOnes_xor, BitVec.toNat_not, h1]
  simp [IntKind.wrap, IntKind.bits, IntKind.signed, Int.bmod]
  omega
theorem sgn_bits {n : Int} (h0 : 0 ≤ n) (h : n < 18446744073709551616) : bits .xor .i64 (RowKit.wrap64 (n / 2)) (RowKit.wrap64 (-RowKit.wrap64 (bits .and .u64 n 1))) = sgn n := by
  rw [and1 h0 h]
  have e : RowKit.wrap64 (n / 2) = n / 2 := by unfold RowKit.wrap64; omega
  rw [e]
  unfold sgn
  by_cases h1 : n % 2 = 1
  · rw [if_pos h1, h1, xor_comm64]
    have e1 : RowKit.wrap64 (-RowKit.wrap64 1) = -1 := by decide
    rw [e1]
    obtain ⟨m, hm⟩ := Int.eq_ofNat_of_zero_le (show 0 ≤ n / 2 by omega)
    rw [hm, i64_not m (by omega)]
    omega
  · rw [if_neg h1, show n % 2 = 0 by omega]
    have e1 : RowKit.wrap64 (-RowKit.wrap64 0) = 0 := by decide
    rw [e1]
    exact xor_zero_i64 (by omega) (by omega)
theorem not_u64 (a : Nat) (ha : a < 18446744073709551616) : bits .xor .u64 (a : Int) 18446744073709551615 = 18446744073709551615 - (a : Int) := by
  have h1 : (BitVec.ofInt 64 (a : Int)).toNat = a := by
    rw [BitVec.ofInt_natCast, BitVec.toNat_ofNat]; exact Nat.mod_eq_of_lt (by omega)
  have h2 : BitVec.ofInt 64 18446744073709551615 = BitVec.allOnes 64 := by decide
  show IntKind.u64.wrap ((BitVec.ofInt 64 (a : Int) ^^^ BitVec.ofInt 64 (18446744073709551615 : Int)).toNat : Int) = _
  rw [h2, BitVec.xor_allOnes, BitVec.toNat_not, h1, IntKind.wrap_u64]
  omega
theorem uns_bits {n : Int} (h0 : -9223372036854775808 ≤ n) (h1 : n ≤ 9223372036854775807) : bits .xor .u64 (IntKind.u64.wrap (IntKind.u64.wrap n * 2)) (IntKind.u64.wrap (n / 9223372036854775808)) = uns n := by
  simp only [IntKind.wrap_u64]
  unfold uns
  by_cases h : n < 0
  · rw [if_pos h, show n / 9223372036854775808 % 18446744073709551616 = 18446744073709551615 by omega]
    obtain ⟨m, hm⟩ := Int.eq_ofNat_of_zero_le (show 0 ≤ n % 18446744073709551616 * 2 % 18446744073709551616 by omega)
    rw [hm, not_u64 m (by omega)]
    omega
  · rw [if_neg h, show n / 9223372036854775808 % 18446744073709551616 = 0 by omega]
    obtain ⟨m, hm⟩ := Int.eq_ofNat_of_zero_le (show 0 ≤ n % 18446744073709551616 * 2 % 18446744073709551616 by omega)
    rw [hm]
    have := bits_xor_u64_nat m 0 (by omega) (by omega)
    rw [Nat.xor_zero] at this
    have e : ((0 : Nat) : Int) = 0 := rfl
    rw [e] at this
    rw [this]
    omega
theorem wide_yes {s : Int} (h0 : -9223372036854775808 ≤ s) (h1 : s ≤ 9223372036854775807) (h : s < -2147483648 ∨ 2147483647 < s) : (RowKit.wrap64 (RowKit.wrap32 s) != s) = true := by
  rw [bne_iff_ne]
  unfold RowKit.wrap64 RowKit.wrap32
  omega
theorem wide_no {s : Int} (h0 : -2147483648 ≤ s) (h1 : s ≤ 2147483647) : (RowKit.wrap64 (RowKit.wrap32 s) != s) = false := by
  rw [bne_eq_false_iff_eq]
  unfold RowKit.wrap64 RowKit.wrap32
  omega
theorem sum_lt {n p : Int} {i : Nat} (h : n < 128 ^ i) (p0 : 0 ≤ p) (p1 : p < 128) (hi : i < 10) (h9 : i = 9 → p ≤ 1) : n + 128 ^ i * p < 18446744073709551616 := by
  by_cases e : i = 9
  · subst e
    have := h9 rfl
    have e : (128 : Int) ^ 9 = 9223372036854775808 := by decide
    rw [e] at h ⊢
    omega
  · have h1 : (128 : Int) ^ i * p ≤ 128 ^ i * 127 := Int.mul_le_mul_of_nonneg_left (by omega) (by
      have : (0 : Nat) < 128 ^ i := Nat.pow_pos (by omega)
      have : (0 : Int) < 128 ^ i := by exact_mod_cast this
      omega)
    have h2 : (128 : Int) ^ i ≤ 128 ^ 8 := by
      have : (128 : Nat) ^ i ≤ 128 ^ 8 := Nat.pow_le_pow_right (by omega) (by omega)
      exact_mod_cast this
    have e : (128 : Int) ^ 8 = 72057594037927936 := by decide
    rw [e] at h2
    omega
end Go.Proofs.Yteanncfmaomhaaa.Pk
