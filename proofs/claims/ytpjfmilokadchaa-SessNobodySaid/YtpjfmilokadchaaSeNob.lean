/- (c14) The statement SessNobody: calls on a store that is nil. -/
import Derived.Test.YtpjfmilokadchaaSeShw
namespace Go.Proofs.Ytpjfmilokadchaa.Se
open Go Go.RowKit Go.Proofs.YtpjfmilokadchaaW.PrintWords Go.Proofs.YtpjfmilokadchaaW.PrintLast Go.Proofs.YtpjfmilokadchaaW.PrintMore Go.Proofs.Ytpjfmilokadchaa.Rw Go.Proofs.Ytpjfmilokadchaa.Ex
set_option linter.unusedVariables false
set_option linter.unusedSimpArgs false
theorem nobody_ok (key time : Int) (w : World) : Calls Try.prog 7 #[.int .i64 key, .int .i64 time] w fun e w' => e = .returned (.bool true) ∧ Below w.heap.size w w' := by
  have HB := Aside0.mk (Below.refl w.heap.size w)
  go_enter Try.func7, Try.ntmps7
  go_wp2_with fail
  refine (shown_ok _).mono ?_
  rintro e w2 ⟨rfl, hb_⟩
  replace HB := Aside0.mk (below_step HB.out (below_step (by repeat (first | exact Below.refl _ _ | apply below_alloc)) hb_))
  clear hb_
  go_wp2_with fail
  refine (put_nil key time 1 _).mono ?_
  rintro e w2 ⟨rfl, hb_⟩
  replace HB := Aside0.mk (below_step HB.out (below_step (by repeat (first | exact Below.refl _ _ | apply below_alloc)) hb_))
  clear hb_
  go_wp2_with fail
  refine (do_nil key 0 0 0 false _).mono ?_
  rintro e w2 ⟨rfl, hb_⟩
  replace HB := Aside0.mk (below_step HB.out (below_step (by repeat (first | exact Below.refl _ _ | apply below_alloc)) hb_))
  clear hb_
  go_wp2_with fail
  refine (find_nil key time _).mono ?_
  rintro e w2 ⟨rfl, hb_⟩
  replace HB := Aside0.mk (below_step HB.out (below_step (by repeat (first | exact Below.refl _ _ | apply below_alloc)) hb_))
  clear hb_
  go_wp2_with fail
  refine (len_nil _).mono ?_
  rintro e w2 ⟨rfl, hb_⟩
  replace HB := Aside0.mk (below_step HB.out (below_step (by repeat (first | exact Below.refl _ _ | apply below_alloc)) hb_))
  clear hb_
  go_wp2_with fail
  refine (list_nil _).mono ?_
  rintro e w2 ⟨rfl, hb_⟩
  replace HB := Aside0.mk (below_step HB.out (below_step (by repeat (first | exact Below.refl _ _ | apply below_alloc)) hb_))
  clear hb_
  go_wp2_with fail
  refine (expire_nil time _).mono ?_
  rintro e w2 ⟨rfl, hb_⟩
  replace HB := Aside0.mk (below_step HB.out (below_step (by repeat (first | exact Below.refl _ _ | apply below_alloc)) hb_))
  clear hb_

  go_wp2_with fail
  go_ret
  exact ⟨rfl, HB.out⟩
end Go.Proofs.Ytpjfmilokadchaa.Se
