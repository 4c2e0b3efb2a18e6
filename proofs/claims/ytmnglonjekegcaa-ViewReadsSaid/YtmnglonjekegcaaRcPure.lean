/- Plain laws of entries: whether one may be; no program in sight. -/
import GoSem.Claim
namespace Go.Proofs.Ytmnglonjekegcaa.Rc
open Go
set_option linter.unusedVariables false
set_option linter.unusedSimpArgs false
structure Ent where
  kind : Int
  task : Int
  epoch : Int
  txn : Int
  log : Int
  key : Int
  val : Int
  time : Int
  del : Bool
  offs : List Int
  order : List Int
def num (n : Int) : Bool := decide (0 ≤ n) && decide (n ≤ 1048576)
def timeOk (n : Int) : Bool := decide (0 ≤ n) && decide (n ≤ 1099511627776)
/-- What an entry has: the eight marks. -/
def Ent.has (x : Ent) : Nat → Bool
  | 0 => decide (x.task ≠ 0)
  | 1 => decide (x.epoch ≠ 0)
  | 2 => decide (x.txn ≠ 0)
  | 3 => decide (x.log ≠ 0)
  | 4 => decide ((x.key, x.val, x.time) ≠ (0, 0, 0))
  | 5 => x.del
  | 6 => decide (0 < x.offs.length)
  | 7 => decide (0 < x.order.length)
  | _ => false
def mask (b : Nat → Bool) : Nat := (List.range 8).foldl (fun u i => if b i then u ||| 2 ^ i else u) 0
theorem mask_fold (b : Nat → Bool) (n : Nat) (u j : Nat) : ((List.range n).foldl (fun u i => if b i then u ||| 2 ^ i else u) u).testBit j = (u.testBit j || (decide (j < n) && b j)) := by
  induction n with
  | zero => simp
  | succ n ih =>
    rw [List.range_succ, List.foldl_append]
    simp only [List.foldl_cons, List.foldl_nil]
    split
    · rename_i h
      rw [Nat.testBit_or, ih, Nat.testBit_two_pow]
      by_cases e : n = j
      · subst e; simp [h]
      · have : (decide (j < n + 1)) = decide (j < n) := by simp; omega
        simp [e, this]
    · rename_i h
      rw [ih]
      by_cases e : n = j
      · subst e; simp at h; simp [h]
      · have : (decide (j < n + 1)) = decide (j < n) := by simp; omega
        rw [this]
theorem mask_bit (b : Nat → Bool) (j : Nat) : (mask b).testBit j = (decide (j < 8) && b j) := by
  unfold mask
  rw [mask_fold]
  simp
/-- A number whose bits are those is the mask. -/
theorem mask_eq {b : Nat → Bool} {u : Nat} (h : ∀ j, u.testBit j = (decide (j < 8) && b j)) : u = mask b :=
  Nat.eq_of_testBit_eq (fun j => by rw [h, mask_bit])
def may0 (x : Ent) : Bool :=
  decide (1 ≤ x.kind) && decide (x.kind ≤ 6) && (num x.task && num x.epoch && num x.txn && num x.log) && x.offs.all num && x.order.all num && timeOk x.time && decide (x.offs.length ≤ 8) && decide (x.order.length ≤ 256)
def kinds : List Nat := [0, 24, 63, 199, 7, 3, 0]
/-- May it be? -/
def may (x : Ent) : Bool := may0 x && (List.range 8).all fun i => !x.has i || (kinds.getD x.kind.toNat 0).testBit i
end Go.Proofs.Ytmnglonjekegcaa.Rc
