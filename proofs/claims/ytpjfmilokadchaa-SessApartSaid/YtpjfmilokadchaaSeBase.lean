/- (c14) A store of sessions in memory; what a call may turn of it. -/
import Derived.Test.YtpjfmilokadchaaSePure
import Derived.Test.YtpjfmilokadchaaSeFl
import Derived.Test.YtpjfmilokadchaaRw
import Derived.Test.YtpjfmilokadchaaWMore
import Derived.Test.YtpjfmilokadchaaWLast
import Derived.WalkMore
import Derived.WalkKit
import Derived.Test.YtpjfmilokadchaaProg
namespace Go.Proofs.Ytpjfmilokadchaa.Se
open Go Go.RowKit Go.Proofs.YtpjfmilokadchaaW.PrintWords Go.Proofs.YtpjfmilokadchaaW.PrintLast Go.Proofs.YtpjfmilokadchaaW.PrintMore Go.Proofs.Ytpjfmilokadchaa.Rw
set_option linter.unusedVariables false
set_option linter.unusedSimpArgs false
def In64 (a : Int) : Prop := -9223372036854775808 ≤ a ∧ a ≤ 9223372036854775807
def fl (n : Int) : Nat := FloatKind.nearest .f64 n
def spanV (a b : Int) : Value := .complex .f64 (fl a) (fl b)
def cellsS (L : List Ses) : List Value := L.flatMap fun x => [.int .i64 x.k, spanV x.a x.b, .int .i64 x.v]
theorem cellsS_len (L : List Ses) : (cellsS L).length = L.length * 3 := by
  induction L with
  | nil => rfl
  | cons p r ih => show (_ :: _ :: _ :: cellsS r).length = _; simp only [List.length_cons, ih]; omega
theorem cellsS_append (L M : List Ses) : cellsS (L ++ M) = cellsS L ++ cellsS M := by simp [cellsS]
theorem cellsS_one {L : List Ses} : ∀ v ∈ cellsS L, v.oneCell' = true := by
  intro v hv
  unfold cellsS at hv
  obtain ⟨p, _, hv⟩ := List.mem_flatMap.1 hv
  simp only [List.mem_cons, List.not_mem_nil, or_false] at hv
  rcases hv with rfl | rfl | rfl <;> rfl
theorem cellsS_at {L : List Ses} {i : Nat} {p : Ses} (h : L[i]? = some p) : (cellsS L)[i * 3]? = some (.int .i64 p.k) ∧ (cellsS L)[i * 3 + 1]? = some (spanV p.a p.b) ∧ (cellsS L)[i * 3 + 2]? = some (.int .i64 p.v) := by
  induction L generalizing i with
  | nil => simp at h
  | cons q r ih =>
    cases i with
    | zero => simp only [List.getElem?_cons_zero, Option.some.injEq] at h; subst h; exact ⟨rfl, rfl, rfl⟩
    | succ i =>
      have := ih (i := i) (by simpa using h)
      rw [show (i + 1) * 3 = i * 3 + 1 + 1 + 1 by omega]
      exact this
theorem cellsS_take (L : List Ses) (i : Nat) : cellsS (L.take i) = (cellsS L).take (i * 3) := by
  induction L generalizing i with
  | nil => simp [cellsS]
  | cons q r ih =>
    cases i with
    | zero => simp [cellsS]
    | succ i =>
      rw [List.take_succ_cons, show (i + 1) * 3 = i * 3 + 1 + 1 + 1 by omega]
      show _ :: _ :: _ :: cellsS (r.take i) = (_ :: _ :: _ :: cellsS r).take _
      rw [ih, List.take_succ_cons, List.take_succ_cons, List.take_succ_cons]
theorem cellsS_drop (L : List Ses) (i : Nat) : cellsS (L.drop i) = (cellsS L).drop (i * 3) := by
  induction L generalizing i with
  | nil => simp [cellsS]
  | cons q r ih =>
    cases i with
    | zero => simp
    | succ i =>
      rw [List.drop_succ_cons, show (i + 1) * 3 = i * 3 + 1 + 1 + 1 by omega]
      show cellsS (r.drop i) = (_ :: _ :: _ :: cellsS r).drop _
      rw [ih, List.drop_succ_cons, List.drop_succ_cons, List.drop_succ_cons]
/-- What was turned: nothing but the blocks S, and those that are new. -/
structure Chg (w w' : World) (S : Nat → Prop) : Prop where
  os : w'.os = w.os
  tape : w'.tape = w.tape
  output : w'.output = w.output
  size : w.heap.size ≤ w'.heap.size
  block : ∀ k, k < w.heap.size → ¬ S k → w'.heap[k]? = w.heap[k]?
theorem Chg.refl (w : World) (S : Nat → Prop) : Chg w w S := ⟨rfl, rfl, rfl, Nat.le_refl _, fun _ _ _ => rfl⟩
theorem Chg.trans {a b c : World} {S : Nat → Prop} (h : Chg a b S) (k : Chg b c S) : Chg a c S :=
  ⟨k.os.trans h.os, k.tape.trans h.tape, k.output.trans h.output, Nat.le_trans h.size k.size, fun i hi hs => (k.block i (Nat.lt_of_lt_of_le hi h.size) hs).trans (h.block i hi hs)⟩
theorem Chg.trans' {a b c : World} {S T : Nat → Prop} (h : Chg a b S) (k : Chg b c T) (hT : ∀ i, T i → S i ∨ a.heap.size ≤ i) : Chg a c S :=
  ⟨k.os.trans h.os, k.tape.trans h.tape, k.output.trans h.output, Nat.le_trans h.size k.size, fun i hi hs => (k.block i (Nat.lt_of_lt_of_le hi h.size) (fun ht => by rcases hT i ht with h1 | h1; exact hs h1; omega)).trans (h.block i hi hs)⟩
theorem Chg.mono {a b : World} {S T : Nat → Prop} (h : Chg a b S) (hT : ∀ i, S i → T i) : Chg a b T := ⟨h.os, h.tape, h.output, h.size, fun i hi hs => h.block i hi fun hh => hs (hT i hh)⟩
theorem Chg.of_below {a b : World} {S : Nat → Prop} (h : Below a.heap.size a b) : Chg a b S := ⟨h.os, h.tape, h.output, h.size, fun k hk _ => h.block k hk⟩
theorem Chg.of_grown {a b : World} {row : Option Nat} (h : a.grownBy b row) : Chg a b fun k => some k = row := ⟨h.os, h.tape, h.output, h.size, fun k hk hs => h.block k hk hs⟩
theorem Chg.below {base : Nat} {w0 a b : World} {S : Nat → Prop} (h0 : Below base w0 a) (h : Chg a b S) (hb : base ≤ a.heap.size) (hS : ∀ k, S k → base ≤ k) : Below base w0 b :=
  ⟨h.os.trans h0.os, h.tape.trans h0.tape, h.output.trans h0.output, Nat.le_trans h0.size h.size, fun k hk => (h.block k (by omega) (fun hs => by have := hS k hs; omega)).trans (h0.block k hk)⟩
theorem Chg.set {a b : World} {S : Nat → Prop} (h : Chg a b S) {p : Addr} (hp : S p.block) (u : Value) : Chg a (b.setCell p u) S :=
  ⟨h.os, h.tape, h.output, by simpa using h.size, fun k hk hs => (Below.heap_setCell b p u k (fun e => hs (by rw [e]; exact hp))).trans (h.block k hk hs)⟩
def Span (x : Ses) : Prop := 0 ≤ x.a ∧ x.a ≤ x.b ∧ x.b ≤ 1099511627776
/-- A store: block b; its row is v. -/
structure SeS (w : World) (base b : Nat) (room gap : Int) (v : Value) (L : List Ses) : Prop where
  hb : base ≤ b
  cell : w.heap[b]? = some (.cells #[.int .i64 room, .int .i64 gap, v] 49 (0, 0))
  row : w.ownsRow base 53 3 v L.length (cellsS L)
  rise : Rise L
  span : ∀ x ∈ L, Span x
  keys : ∀ p ∈ L, In64 p.k ∧ In64 p.v
  len : L.length ≤ 1024
  most : room ≤ 1024
  gaps : 1 ≤ gap ∧ gap ≤ 1048576
def SB (b : Nat) (v : Value) (k : Nat) : Prop := k = b ∨ some k = v.ownBlock
def Hat (vo v : Value) (n : Nat) : Prop := v.ownBlock = vo.ownBlock ∨ ∃ b, v.ownBlock = some b ∧ n ≤ b
theorem Hat.refl (vo : Value) (n : Nat) : Hat vo vo n := .inl rfl
theorem Hat.trans {vo v v2 : Value} {n n1 : Nat} (h : Hat vo v n) (k : Hat v v2 n1) (hs : n ≤ n1) : Hat vo v2 n := by
  rcases k with k | ⟨b, k, hb⟩
  · rcases h with h | ⟨b, h, hb⟩
    · exact .inl (k.trans h)
    · exact .inr ⟨b, k.trans h, hb⟩
  · exact .inr ⟨b, k, by omega⟩
theorem Hat.lower {vo v : Value} {n m : Nat} (h : Hat vo v n) (hm : m ≤ n) : Hat vo v m := by
  rcases h with h | ⟨b, h, hb⟩
  · exact .inl h
  · exact .inr ⟨b, h, by omega⟩
theorem own_lt' {w : World} {base e sz n : Nat} {v : Value} {xs : List Value} (h : w.ownsRow base e sz v n xs) (k : Nat) (hk : v.ownBlock = some k) : base ≤ k ∧ k < w.heap.size := by
  rcases h.2 with ⟨rfl, _⟩ | ⟨g, cap, cur, rfl, hb, hg, _⟩
  · cases hk
  · injection hk with hk
    subst hk
    exact ⟨hb, (Array.getElem?_eq_some_iff.1 hg).1⟩
theorem SeS.lt {w : World} {base b : Nat} {room gap : Int} {v : Value} {L : List Ses} (h : SeS w base b room gap v L) : b < w.heap.size := (Array.getElem?_eq_some_iff.1 h.cell).1
theorem SeS.sb {w : World} {base b : Nat} {room gap : Int} {v : Value} {L : List Ses} (h : SeS w base b room gap v L) (k : Nat) (hk : SB b v k) : base ≤ k ∧ k < w.heap.size := by
  rcases hk with rfl | hk
  · exact ⟨h.hb, h.lt⟩
  · exact own_lt' h.row k hk.symm
theorem SeS.move {w w' : World} {base b : Nat} {room gap : Int} {v : Value} {L : List Ses} (h : SeS w base b room gap v L) (hm : ∀ k, SB b v k → w'.heap[k]? = w.heap[k]?) : SeS w' base b room gap v L := by
  refine ⟨h.hb, (hm b (.inl rfl)).trans h.cell, ?_, h.rise, h.span, h.keys, h.len, h.most, h.gaps⟩
  obtain ⟨h1, h2⟩ := h.row
  refine ⟨h1, ?_⟩
  rcases h2 with h2 | ⟨g, cap, cur, rfl, hg, hh, r⟩
  · exact .inl h2
  · exact .inr ⟨g, cap, cur, rfl, hg, (hm g (.inr rfl)).trans hh, r⟩
theorem SeS.below {w w' : World} {base b : Nat} {room gap : Int} {v : Value} {L : List Ses} (h : SeS w base b room gap v L) (hb : Below w.heap.size w w') : SeS w' base b room gap v L :=
  h.move fun k hk => hb.block k (h.sb k hk).2
theorem SeS.lower {w : World} {base base' b : Nat} {room gap : Int} {v : Value} {L : List Ses} (h : SeS w base b room gap v L) (hb : base' ≤ base) : SeS w base' b room gap v L := by
  refine ⟨Nat.le_trans hb h.hb, h.cell, ?_, h.rise, h.span, h.keys, h.len, h.most, h.gaps⟩
  obtain ⟨h1, h2⟩ := h.row
  refine ⟨h1, ?_⟩
  rcases h2 with h2 | ⟨g, cap, cur, rfl, hg, hh, r⟩
  · exact .inl h2
  · exact .inr ⟨g, cap, cur, rfl, Nat.le_trans hb hg, hh, r⟩
/-- Two stores have nothing in common. -/
def Away (b : Nat) (v : Value) (b2 : Nat) (v2 : Value) : Prop := ∀ k, SB b v k → ¬ SB b2 v2 k
theorem SeS.other {w w' : World} {base b b2 : Nat} {room gap : Int} {v v2 : Value} {L : List Ses} (h : SeS w base b room gap v L) (hc : Chg w w' (SB b2 v2)) (ha : Away b v b2 v2) : SeS w' base b room gap v L :=
  h.move fun k hk => hc.block k (h.sb k hk).2 (ha k hk)
theorem Away.symm {b b2 : Nat} {v v2 : Value} (h : Away b v b2 v2) : Away b2 v2 b v := fun k h1 h2 => h k h2 h1
theorem Away.hat {b b2 n : Nat} {v v' v2 : Value} (h : Away b v b2 v2) (hh : Hat v v' n) (hl : ∀ k, SB b2 v2 k → k < n) : Away b v' b2 v2 := by
  intro k h1 h2
  rcases h1 with h1 | h1
  · exact h k (.inl h1) h2
  · rcases hh with hh | ⟨g, hh, hg⟩
    · exact h k (.inr (h1.trans hh)) h2
    · rw [hh] at h1
      injection h1 with h1
      have := hl k h2
      omega
theorem Hat.sb {b n : Nat} {v v' : Value} (h : Hat v v' n) (k : Nat) (hk : SB b v' k) : SB b v k ∨ n ≤ k := by
  rcases hk with hk | hk
  · exact .inl (.inl hk)
  · rcases h with h | ⟨g, h, hg⟩
    · exact .inl (.inr (hk.trans h))
    · rw [h] at hk
      injection hk with hk
      exact .inr (by omega)
end Go.Proofs.Ytpjfmilokadchaa.Se
