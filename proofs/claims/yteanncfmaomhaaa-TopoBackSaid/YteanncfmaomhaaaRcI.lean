/- (c03) Contracts of pack's readers: a signed number, bytes, numbers; and of a reader that is nil. -/
import Derived.Test.YteanncfmaomhaaaPkA
import Derived.Test.YteanncfmaomhaaaProg
namespace Go.Proofs.Yteanncfmaomhaaa.Pk
open Go Go.RowKit Go.Proofs.YteanncfmaomhaaaW.PrintWords Go.Proofs.YteanncfmaomhaaaW.PrintLast Go.Proofs.YteanncfmaomhaaaW.PrintMore
set_option linter.unusedVariables false
set_option linter.unusedSimpArgs false

def IPost (b : Nat) (xs : List Int) (base : Nat) (w : World) (e : Ending) (w' : World) : Prop := e = .returned (.tuple #[.int .i64 (sgn (rdU xs).1), .int .i64 (rdU xs).2.1]) ∧ Rdr w' base b (rdU xs).2.2 ∧ w.grownBy w' (some b)
set_option maxHeartbeats 1000000 in
set_option maxRecDepth 100000 in
theorem int_some (b : Nat) (xs : List Int) (base : Nat) (w : World) (h : Rdr w base b xs) :
    Calls Try.prog 43 #[.pointer (some ⟨b, 0, none⟩)] w (IPost b xs base w) := by
  have HR := Aside0.mk h
  have HX := Aside0.mk (rdU_range h.byt)
  clear h
  obtain ⟨n, hn⟩ : ∃ n, Aside0 ((rdU xs).1 = n) := ⟨_, ⟨rfl⟩⟩
  obtain ⟨e, he⟩ : ∃ n, Aside0 ((rdU xs).2.1 = n) := ⟨_, ⟨rfl⟩⟩
  rw [hn.out] at HX
  go_enter Try.func43, Try.ntmps43
  go_wp2_with (go_at_call 29; refine (uint_some b xs base _ HR.out).mono ?_; rintro e w1 ⟨he1, h1, h2⟩; rw [hn.out, he.out] at he1; subst he1; have HR1 := Aside0.mk h1; have HG := Aside0.mk h2; clear h1 h2)
  go_ret2
  refine ⟨?_, HR1.out, HG.out⟩
  rw [hn.out, he.out, ← sgn_bits HX.out.1 HX.out.2]
  rfl

end Go.Proofs.Yteanncfmaomhaaa.Pk
