/- (c14) A store's Put. -/
import Derived.Test.YtpjfmilokadchaaSeP1
namespace Go.Proofs.Ytpjfmilokadchaa.Se
open Go Go.RowKit Go.Proofs.YtpjfmilokadchaaW.PrintWords Go.Proofs.YtpjfmilokadchaaW.PrintLast Go.Proofs.YtpjfmilokadchaaW.PrintMore Go.Proofs.Ytpjfmilokadchaa.Rw Go.Proofs.Ytpjfmilokadchaa.Ex Go.Proofs.Ytpjfmilokadchaa.Mono
set_option linter.unusedVariables false
set_option linter.unusedSimpArgs false
theorem run_store_cplx {P : Program} {w : World} {ad : Addr} {m : Mode} (k : FloatKind) (a b : Nat) : (store ad (.complex k a b) m).run P w = stored P w ad (.complex k a b) m := run_store P w ad _ m rfl
attribute [local go_sem] run_store_span run_store_cplx max2_int min2_int max_two min_two
def putOK (room g : Int) (L : List Ses) (key t : Int) : Bool := mayT t && (!(findL g L key t).isEmpty || decide ((L.length : Int) < room))
def putL (room g : Int) (L : List Ses) (key t v : Int) : List Ses := if putOK room g L key t = true then putS g L key t v else L
def putM (room g : Int) (L : List Ses) (key t v : Int) : List S33 := if putOK room g L key t = true then ((findL g L key t).map gonOf).filter (fun c => !p1B (putX g L key t v) c) ++ [chgOf (putX g L key t v)] else []
def putE (room g : Int) (L : List Ses) (key t : Int) : Int := if mayT t = true then (if putOK room g L key t = true then 0 else 3) else 2
/-- What Put leaves. -/
def PutPost (base b : Nat) (room gap : Int) (v : Value) (L' : List Ses) (M : List S33) (code : Int) (w : World) (e : Ending) (w' : World) : Prop :=
  ∃ v' A c, e = .returned (.tuple #[.slice A M.length c, .int .i64 code]) ∧ w'.ownsRow w.heap.size 33 5 (.slice A M.length c) M.length (cellsC M) ∧ SeS w' base b room gap v' L' ∧ Chg w w' (SB b v) ∧ Hat v v' w.heap.size
theorem first_snoc (t : Int) (T : List Ses) (x : Ses) : firstL t (T ++ [x]) = if x.a < firstL t T then x.a else firstL t T := by unfold firstL; rw [List.foldl_append]; rfl
theorem last_snoc (t : Int) (T : List Ses) (x : Ses) : lastL t (T ++ [x]) = if lastL t T < x.b then x.b else lastL t T := by unfold lastL; rw [List.foldl_append]; rfl
theorem put_no (base b : Nat) (room gap : Int) (v : Value) (L : List Ses) (key t val : Int) (w : World) (h : SeS w base b room gap v L) (hm : mayT t = false) :
    Calls Try.prog 10 #[.pointer (some ⟨b, 0, none⟩), .int .i64 key, .int .i64 t, .int .i64 val] w (PutPost base b room gap v L [] 2 w) := by
  have HP : Aside0 (PutPost base b room gap v L [] 2 w (.returned (.tuple #[.slice none 0 0, .int .i64 2])) w) := ⟨⟨v, none, 0, rfl, World.ownsRow_nil _ _ _ _, h, Chg.refl _ _, Hat.refl _ _⟩⟩
  clear h
  go_enter Try.func10, Try.ntmps10
  go_wp2_with fail
  refine (may_ok t w).mono ?_
  rintro e w1 ⟨rfl, rfl⟩
  rw [hm]
  go_wp2_with fail
  go_ret2
  exact HP.out
theorem put_full (base b : Nat) (room gap : Int) (v : Value) (L : List Ses) (key t val : Int) (w : World) (h : SeS w base b room gap v L) (hm : mayT t = true) (hf : findL gap L key t = []) (hr : room ≤ (L.length : Int)) :
    Calls Try.prog 10 #[.pointer (some ⟨b, 0, none⟩), .int .i64 key, .int .i64 t, .int .i64 val] w (PutPost base b room gap v L [] 3 w) := by
  have HMT := Aside0.mk hm
  have HK := Aside0.mk h
  obtain ⟨A, c, hv, hnc, hcm⟩ := slice_of h.row
  obtain ⟨n, HN⟩ : ∃ n, Aside0 (L.length = n) := ⟨_, ⟨rfl⟩⟩
  rw [HN.out] at hv hnc hr
  subst hv
  have HST := Aside0.mk h.cell
  have HM0 : Aside0 (((findL gap L key t).map chgOf).length = 0) := ⟨by rw [hf]; rfl⟩
  have h1 : decide ((n : Int) ≥ room) = true := decide_eq_true hr
  have h1b : decide (room ≤ (n : Int)) = true := decide_eq_true hr
  clear h hm hf hr hcm
  go_enter Try.func10, Try.ntmps10
  go_wp2_with fail
  refine (may_ok t w).mono ?_
  rintro e w1 ⟨rfl, rfl⟩
  rw [HMT.out]
  go_upto_region 5 with fail
  refine start_ (n := 19) (S := fun w' => Below w.heap.size w w') (ds := []) #[false, false, false, false, false, false, false, false, false, false, false, false, false, false, false, false, false, false, false] (by kernel_rfl) rfl rfl (below_drew (Below.refl _ _)) (fun hHeld => ?_)
  refine pure_ (i := 0) (N := some 25) (v := ?_) (a' := ?_) #[true, false, false, false, false, false, false, false, false, false, false, false, false, false, false, false, false, false, false] rfl rfl (by kernel_rfl) (fun _ _ _ h => h) (Or.inl ⟨by rfl, ?_⟩) ?_ ?_
  rotate_left
  · intro w'
    go_simp
    with_reducible rfl
  rotate_left
  · simp only [Act.put, List.setIfInBounds_toArray, List.set_cons_zero, List.set_cons_succ, i64_w, i32_w]
    rfl
  refine pure_ (i := 1) (N := some 26) (v := ?_) (a' := ?_) #[true, true, false, false, false, false, false, false, false, false, false, false, false, false, false, false, false, false, false] rfl rfl (by kernel_rfl) (fun _ _ _ h => h) (Or.inl ⟨by rfl, ?_⟩) ?_ ?_
  rotate_left
  · intro w'
    go_simp
    with_reducible rfl
  rotate_left
  · simp only [Act.put, List.setIfInBounds_toArray, List.set_cons_zero, List.set_cons_succ, i64_w, i32_w]
    rfl
  refine pure_ (i := 2) (N := some 27) (v := ?_) (a' := ?_) #[true, true, true, false, false, false, false, false, false, false, false, false, false, false, false, false, false, false, false] rfl rfl (by kernel_rfl) (fun _ _ _ h => h) (Or.inl ⟨by rfl, ?_⟩) ?_ ?_
  rotate_left
  · intro w'
    go_simp
    with_reducible rfl
  rotate_left
  · simp only [Act.put, List.setIfInBounds_toArray, List.set_cons_zero, List.set_cons_succ, i64_w, i32_w]
    rfl
  refine one_ (i := 3) (N := some 28) #[true, true, true, true, false, false, false, false, false, false, false, false, false, false, false, false, false, false, false] rfl rfl (by kernel_rfl) (by simp) (fun K hK => ?_)
  refine goes_ Try.func12 (by kernel_rfl) rfl #[.pointer (some ⟨b, 0, none⟩), .int .i64 key, .int .i64 t] (by rfl) rfl rfl (by simp only [List.map_toArray, List.map_cons, List.map_nil]; rfl) ?_
  with_reducible refine (find_yes base b room gap (.slice A n c) L key t _ (HK.out.below hHeld) HMT.out).mono ?_
  rintro e w3 ⟨v0, rfl, ho_, hb_⟩
  refine ⟨_, rfl, ?_⟩
  replace hb_ := below_step hHeld hb_
  refine hK.out _ _ hb_ (fun _ => ?_)
  clear hK K
  refine norm_ (a' := ?_) ?_ ?_
  rotate_left
  · show Act.put _ (some 28) _ = _
    simp only [Act.put, List.setIfInBounds_toArray, List.set_cons_zero, List.set_cons_succ, i64_w, i32_w]
    rfl
  replace hHeld := hb_
  obtain ⟨A0, c0, rfl, _, _⟩ := slice_of ho_
  rw [HM0.out]
  clear ho_
  clear hb_
  refine pure_ (i := 4) (N := some 29) (v := ?_) (a' := ?_) #[true, true, true, true, true, false, false, false, false, false, false, false, false, false, false, false, false, false, false] rfl rfl (by kernel_rfl) (fun _ _ _ h => h) (Or.inl ⟨by rfl, ?_⟩) ?_ ?_
  rotate_left
  · intro w'
    go_simp
    with_reducible rfl
  rotate_left
  · simp only [Act.put, List.setIfInBounds_toArray, List.set_cons_zero, List.set_cons_succ, i64_w, i32_w]
    rfl
  refine pure_ (i := 5) (N := some 30) (v := ?_) (a' := ?_) #[true, true, true, true, true, true, false, false, false, false, false, false, false, false, false, false, false, false, false] rfl rfl (by kernel_rfl) (fun _ _ _ h => h) (Or.inl ⟨by rfl, ?_⟩) ?_ ?_
  rotate_left
  · intro w'
    go_simp
    with_reducible rfl
  rotate_left
  · simp only [Act.put, List.setIfInBounds_toArray, List.set_cons_zero, List.set_cons_succ, i64_w, i32_w]
    rfl
  refine pure_ (i := 6) (N := some 31) (v := ?_) (a' := ?_) #[true, true, true, true, true, true, true, false, false, false, false, false, false, false, false, false, false, false, false] rfl rfl (by kernel_rfl) (fun _ _ _ h => h) (Or.inl ⟨by rfl, ?_⟩) ?_ ?_
  rotate_left
  · intro w'
    go_simp
    with_reducible rfl
  rotate_left
  · simp only [Act.put, List.setIfInBounds_toArray, List.set_cons_zero, List.set_cons_succ, i64_w, i32_w]
    rfl
  refine pure_ (i := 7) (N := some 32) (v := ?_) (a' := ?_) #[true, true, true, true, true, true, true, true, false, false, false, false, false, false, false, false, false, false, false] rfl rfl (by kernel_rfl) (fun _ _ _ h => h) (Or.inl ⟨by rfl, ?_⟩) ?_ ?_
  rotate_left
  · intro w'
    go_simp
    with_reducible rfl
  rotate_left
  · simp only [Act.put, List.setIfInBounds_toArray, List.set_cons_zero, List.set_cons_succ, i64_w, i32_w]
    rfl
  refine pure_ (i := 8) (N := some 33) (v := ?_) (a' := ?_) #[true, true, true, true, true, true, true, true, true, false, false, false, false, false, false, false, false, false, false] rfl rfl (by kernel_rfl) (fun _ _ _ h => h) (Or.inl ⟨by rfl, ?_⟩) ?_ ?_
  rotate_left
  · intro w'
    go_simp
    with_reducible rfl
  rotate_left
  · simp only [Act.put, List.setIfInBounds_toArray, List.set_cons_zero, List.set_cons_succ, i64_w, i32_w]
    rfl
  refine pure_ (i := 9) (N := some 34) (v := ?_) (a' := ?_) #[true, true, true, true, true, true, true, true, true, true, false, false, false, false, false, false, false, false, false] rfl rfl (by kernel_rfl) (fun _ _ _ h => h) (Or.inl ⟨by rfl, ?_⟩) ?_ ?_
  rotate_left
  · intro w'
    go_simp
    with_reducible rfl
  rotate_left
  · simp only [Act.put, List.setIfInBounds_toArray, List.set_cons_zero, List.set_cons_succ, i64_w, i32_w]
    rfl
  refine pure_ (i := 12) (N := some 37) (v := ?_) (a' := ?_) #[true, true, true, true, true, true, true, true, true, true, false, false, true, false, false, false, false, false, false] rfl rfl (by kernel_rfl) (fun _ _ _ h => h) (Or.inl ⟨by rfl, ?_⟩) ?_ ?_
  rotate_left
  · intro w'
    go_simp
    with_reducible rfl
  rotate_left
  · simp only [Act.put, List.setIfInBounds_toArray, List.set_cons_zero, List.set_cons_succ, i64_w, i32_w]
    rfl
  refine pure_ (i := 13) (N := some 38) (v := ?_) (a' := ?_) #[true, true, true, true, true, true, true, true, true, true, false, false, true, true, false, false, false, false, false] rfl rfl (by kernel_rfl) (fun _ _ _ h => h) (Or.inl ⟨by rfl, ?_⟩) ?_ ?_
  rotate_left
  · intro w'
    go_simp
    with_reducible rfl
  rotate_left
  · simp only [Act.put, List.setIfInBounds_toArray, List.set_cons_zero, List.set_cons_succ, i64_w, i32_w]
    rfl
  refine pure_ (i := 14) (N := some 39) (v := ?_) (a' := ?_) #[true, true, true, true, true, true, true, true, true, true, false, false, true, true, true, false, false, false, false] rfl rfl (by kernel_rfl) (fun _ _ _ h => h) (Or.inl ⟨by rfl, ?_⟩) ?_ ?_
  rotate_left
  · intro w'
    go_simp
    with_reducible rfl
  rotate_left
  · simp only [Act.put, List.setIfInBounds_toArray, List.set_cons_zero, List.set_cons_succ, i64_w, i32_w]
    rfl
  refine take_ (i := 10) (N := some 35) (v := ?_) (a' := ?_) #[true, true, true, true, true, true, true, true, true, true, true, false, true, true, true, false, false, false, false] rfl rfl (by kernel_rfl) (fun _ _ _ h => h) (Or.inl ⟨by rfl, ?_⟩) hHeld ?_ ?_
  rotate_left
  · intro w' hS
    have s_ := (blk_cell (blk_below HST.out hS) 2).trans (rfl : _ = some (.slice A n c : Value))
    go_simp
    with_reducible rfl
  rotate_left
  · simp only [Act.put, List.setIfInBounds_toArray, List.set_cons_zero, List.set_cons_succ, i64_w, i32_w]
    rfl
  refine pure_ (i := 11) (N := some 36) (v := ?_) (a' := ?_) #[true, true, true, true, true, true, true, true, true, true, true, true, true, true, true, false, false, false, false] rfl rfl (by kernel_rfl) (fun _ _ _ h => h) (Or.inl ⟨by rfl, ?_⟩) ?_ ?_
  rotate_left
  · intro w'
    go_simp
    with_reducible rfl
  rotate_left
  · simp only [Act.put, List.setIfInBounds_toArray, List.set_cons_zero, List.set_cons_succ, i64_w, i32_w]
    rfl
  refine take_ (i := 15) (N := some 40) (v := ?_) (a' := ?_) #[true, true, true, true, true, true, true, true, true, true, true, true, true, true, true, true, false, false, false] rfl rfl (by kernel_rfl) (fun _ _ _ h => h) (Or.inl ⟨by rfl, ?_⟩) hHeld ?_ ?_
  rotate_left
  · intro w' hS
    have s_ := (blk_cell (blk_below HST.out hS) 0).trans (rfl : _ = some (.int .i64 room : Value))
    go_simp
    with_reducible rfl
  rotate_left
  · simp only [Act.put, List.setIfInBounds_toArray, List.set_cons_zero, List.set_cons_succ, i64_w, i32_w]
    rfl
  refine pure_ (i := 16) (N := some 41) (v := ?_) (a' := ?_) #[true, true, true, true, true, true, true, true, true, true, true, true, true, true, true, true, true, false, false] rfl rfl (by kernel_rfl) (fun _ _ _ h => h) (Or.inl ⟨by rfl, ?_⟩) ?_ ?_
  rotate_left
  · intro w'
    go_simp
    with_reducible rfl
  rotate_left
  · simp only [Act.put, List.setIfInBounds_toArray, List.set_cons_zero, List.set_cons_succ, i64_w, i32_w]
    rfl
  refine pure_ (i := 17) (N := some 42) (v := ?_) (a' := ?_) #[true, true, true, true, true, true, true, true, true, true, true, true, true, true, true, true, true, true, false] rfl rfl (by kernel_rfl) (fun _ _ _ h => h) (Or.inl ⟨by rfl, ?_⟩) ?_ ?_
  rotate_left
  · intro w'
    go_simp
    with_reducible rfl
  rotate_left
  · simp only [Act.put, List.setIfInBounds_toArray, List.set_cons_zero, List.set_cons_succ, i64_w, i32_w]
    rfl
  refine pure_ (i := 18) (N := some 24) (v := ?_) (a' := ?_) #[true, true, true, true, true, true, true, true, true, true, true, true, true, true, true, true, true, true, true] rfl rfl (by kernel_rfl) (fun _ _ _ h => h) (Or.inl ⟨by rfl, ?_⟩) ?_ ?_
  rotate_left
  · intro w'
    go_simp
    with_reducible rfl
  rotate_left
  · simp only [Act.put, List.setIfInBounds_toArray, List.set_cons_zero, List.set_cons_succ, i64_w, i32_w]
    rfl
  refine done_ (by kernel_rfl) ?_

  have HP : Aside0 (PutPost base b room gap (.slice A n c) L [] 3 w (.returned (.tuple #[.slice none 0 0, .int .i64 3])) w3) := ⟨⟨_, none, 0, rfl, World.ownsRow_nil _ _ _ _, HK.out.below hHeld, Chg.of_below hHeld, Hat.refl _ _⟩⟩
  clear hHeld
  go_wp2_with fail
  go_ret2
  exact HP.out
theorem stay_find (g : Int) (L : List Ses) (key t : Int) : (stayL g L key t).length + (findL g L key t).length = L.length := by
  induction L with
  | nil => rfl
  | cons y M ih =>
    unfold stayL findL at ih ⊢
    cases h : touchB g key t y with
    | true => rw [List.filter_cons_of_neg (by simp [h]), List.filter_cons_of_pos h, List.length_cons, List.length_cons]; omega
    | false => rw [List.filter_cons_of_pos (by simp [h]), List.filter_cons_of_neg (by simp [h]), List.length_cons, List.length_cons]; omega
theorem put_span {L : List Ses} {g key t v : Int} (h : ∀ x ∈ L, Span x) (hm : mayT t = true) : Span (putX g L key t v) := by
  unfold mayT at hm
  simp only [Bool.and_eq_true, decide_eq_true_eq] at hm
  obtain ⟨f1, f2, f3⟩ := first_le (findL g L key t) t
  obtain ⟨l1, l2, l3⟩ := last_ge (findL g L key t) t
  have hT : ∀ z ∈ findL g L key t, z ∈ L := fun z hz => (List.mem_filter.1 hz).1
  show 0 ≤ firstL t (findL g L key t) ∧ firstL t (findL g L key t) ≤ lastL t (findL g L key t) ∧ lastL t (findL g L key t) ≤ 1099511627776
  refine ⟨?_, by omega, ?_⟩
  · rcases f3 with f3 | ⟨z, hz, f3⟩
    · omega
    · have := h z (hT z hz); unfold Span at this; omega
  · rcases l3 with l3 | ⟨z, hz, l3⟩
    · omega
    · have := h z (hT z hz); unfold Span at this; omega
theorem put_fresh {L : List Ses} {g key t v : Int} (hg : 1 ≤ g) : ∀ y ∈ stayL g L key t, sameB y (putX g L key t v) = false := by
  intro y hy
  cases hs : sameB y (putX g L key t v) with
  | false => rfl
  | true =>
    exfalso
    rw [same_iff] at hs
    obtain ⟨hyL, hyt⟩ := List.mem_filter.1 hy
    have hny : ¬ touchB g key t y = true := by simpa using hyt
    rw [touch_iff] at hny
    have f := (first_le (findL g L key t) t).1
    have l := (last_ge (findL g L key t) t).1
    have e1 : y.k = key := hs.1
    have e2 : y.a = firstL t (findL g L key t) := hs.2.1
    have e3 : y.b = lastL t (findL g L key t) := hs.2.2
    omega
set_option maxHeartbeats 8000000 in
set_option maxRecDepth 100000 in
theorem put_yes (base b : Nat) (room gap : Int) (v : Value) (L : List Ses) (key t val : Int) (w : World) (h : SeS w base b room gap v L) (hbs : base ≤ w.heap.size) (hm : mayT t = true) (hf : findL gap L key t ≠ [] ∨ (L.length : Int) < room) (hk : In64 key) (hvv : In64 val) :
    Calls Try.prog 10 #[.pointer (some ⟨b, 0, none⟩), .int .i64 key, .int .i64 t, .int .i64 val] w (PutPost base b room gap v (putS gap L key t val) (((findL gap L key t).map gonOf).filter (fun c => !p1B (putX gap L key t val) c) ++ [chgOf (putX gap L key t val)]) 0 w) := by
  have HMT := Aside0.mk hm
  have HK := Aside0.mk h
  have HBS0 := Aside0.mk hbs
  have HSP := Aside0.mk h.span
  have HGP := Aside0.mk h.gaps
  have HKV := Aside0.mk (⟨hk, hvv⟩ : In64 key ∧ In64 val)
  have HF0 := Aside0.mk hf
  have HXS := Aside0.mk (put_span (g := gap) (key := key) (v := val) h.span hm)
  have HXF := Aside0.mk (put_fresh (L := L) (g := gap) (key := key) (t := t) (v := val) h.gaps.1)
  obtain ⟨A, c, hv, hnc, hcm⟩ := slice_of h.row
  obtain ⟨n, HN⟩ : ∃ n, Aside0 (L.length = n) := ⟨_, ⟨rfl⟩⟩
  have hn : n ≤ 1024 := by rw [← HN.out]; exact h.len
  rw [HN.out] at hv hnc
  subst hv
  have HST := Aside0.mk h.cell
  obtain ⟨m0, HM0⟩ : ∃ m, Aside0 (((findL gap L key t).map chgOf).length = m) := ⟨_, ⟨rfl⟩⟩
  have HRM : Aside0 (m0 ≠ 0 ∨ (n : Int) < room) := ⟨by
    rcases hf with hf | hf
    · left; intro e; apply hf; have := HM0.out; rw [List.length_map, e] at this; exact List.length_eq_zero_iff.1 this
    · right; rw [← HN.out]; exact hf⟩
  have HST8 : Aside0 ((stayL gap L key t).length + 1 ≤ 1024) := ⟨by
    have e := stay_find gap L key t
    rw [HN.out] at e
    rcases hf with hf | hf
    · have : (findL gap L key t).length ≠ 0 := fun e => hf (List.length_eq_zero_iff.1 e)
      omega
    · have := h.most; rw [HN.out] at hf; omega⟩
  clear h hm hf hcm hbs hk hvv
  go_enter Try.func10, Try.ntmps10
  go_wp2_with fail
  refine (may_ok t w).mono ?_
  rintro e w1 ⟨rfl, rfl⟩
  rw [HMT.out]
  obtain ⟨L2, HL2⟩ : ∃ y, Aside0 (putS gap L key t val = y) := ⟨_, ⟨rfl⟩⟩
  obtain ⟨M2, HM2⟩ : ∃ y, Aside0 (((findL gap L key t).map gonOf).filter (fun c => !p1B (putX gap L key t val) c) ++ [chgOf (putX gap L key t val)] = y) := ⟨_, ⟨rfl⟩⟩
  go_upto_region 5 with fail
  go_cut [24] (fun v24 wc => v24 = .bool false ∧ Aside0 (Below w.heap.size w wc))
  case first =>
    by_cases hz : m0 = 0
    · have hr : (n : Int) < room := by have := HRM.out; omega
      have hz1 : (((m0 : Nat) : Int) == 0) = true := by simp; omega
      have h1 : decide ((n : Int) ≥ room) = false := by simp; omega
      have h1b : decide (room ≤ (n : Int)) = false := by simp; omega
      clear hz hr
      refine start_ (n := 19) (S := fun w' => Below w.heap.size w w') (ds := []) #[false, false, false, false, false, false, false, false, false, false, false, false, false, false, false, false, false, false, false] (by kernel_rfl) rfl rfl (below_drew (Below.refl _ _)) (fun hHeld => ?_)
      refine pure_ (i := 0) (N := some 25) (v := ?_) (a' := ?_) #[true, false, false, false, false, false, false, false, false, false, false, false, false, false, false, false, false, false, false] rfl rfl (by kernel_rfl) (fun _ _ _ h => h) (Or.inl ⟨by rfl, ?_⟩) ?_ ?_
      rotate_left
      · intro w'
        go_simp
        with_reducible rfl
      rotate_left
      · simp only [Act.put, List.setIfInBounds_toArray, List.set_cons_zero, List.set_cons_succ, i64_w, i32_w]
        rfl
      refine pure_ (i := 1) (N := some 26) (v := ?_) (a' := ?_) #[true, true, false, false, false, false, false, false, false, false, false, false, false, false, false, false, false, false, false] rfl rfl (by kernel_rfl) (fun _ _ _ h => h) (Or.inl ⟨by rfl, ?_⟩) ?_ ?_
      rotate_left
      · intro w'
        go_simp
        with_reducible rfl
      rotate_left
      · simp only [Act.put, List.setIfInBounds_toArray, List.set_cons_zero, List.set_cons_succ, i64_w, i32_w]
        rfl
      refine pure_ (i := 2) (N := some 27) (v := ?_) (a' := ?_) #[true, true, true, false, false, false, false, false, false, false, false, false, false, false, false, false, false, false, false] rfl rfl (by kernel_rfl) (fun _ _ _ h => h) (Or.inl ⟨by rfl, ?_⟩) ?_ ?_
      rotate_left
      · intro w'
        go_simp
        with_reducible rfl
      rotate_left
      · simp only [Act.put, List.setIfInBounds_toArray, List.set_cons_zero, List.set_cons_succ, i64_w, i32_w]
        rfl
      refine one_ (i := 3) (N := some 28) #[true, true, true, true, false, false, false, false, false, false, false, false, false, false, false, false, false, false, false] rfl rfl (by kernel_rfl) (by simp) (fun K hK => ?_)
      refine goes_ Try.func12 (by kernel_rfl) rfl #[.pointer (some ⟨b, 0, none⟩), .int .i64 key, .int .i64 t] (by rfl) rfl rfl (by simp only [List.map_toArray, List.map_cons, List.map_nil]; rfl) ?_
      with_reducible refine (find_yes base b room gap (.slice A n c) L key t _ (HK.out.below hHeld) HMT.out).mono ?_
      rintro e w3 ⟨v0, rfl, ho_, hb_⟩
      refine ⟨_, rfl, ?_⟩
      replace hb_ := below_step hHeld hb_
      refine hK.out _ _ hb_ (fun _ => ?_)
      clear hK K
      refine norm_ (a' := ?_) ?_ ?_
      rotate_left
      · show Act.put _ (some 28) _ = _
        simp only [Act.put, List.setIfInBounds_toArray, List.set_cons_zero, List.set_cons_succ, i64_w, i32_w]
        rfl
      replace hHeld := hb_
      obtain ⟨A0, c0, rfl, _, _⟩ := slice_of ho_
      rw [HM0.out]
      clear ho_
      clear hb_
      refine pure_ (i := 4) (N := some 29) (v := ?_) (a' := ?_) #[true, true, true, true, true, false, false, false, false, false, false, false, false, false, false, false, false, false, false] rfl rfl (by kernel_rfl) (fun _ _ _ h => h) (Or.inl ⟨by rfl, ?_⟩) ?_ ?_
      rotate_left
      · intro w'
        go_simp
        with_reducible rfl
      rotate_left
      · simp only [Act.put, List.setIfInBounds_toArray, List.set_cons_zero, List.set_cons_succ, i64_w, i32_w]
        rfl
      refine pure_ (i := 5) (N := some 30) (v := ?_) (a' := ?_) #[true, true, true, true, true, true, false, false, false, false, false, false, false, false, false, false, false, false, false] rfl rfl (by kernel_rfl) (fun _ _ _ h => h) (Or.inl ⟨by rfl, ?_⟩) ?_ ?_
      rotate_left
      · intro w'
        go_simp
        with_reducible rfl
      rotate_left
      · simp only [Act.put, List.setIfInBounds_toArray, List.set_cons_zero, List.set_cons_succ, i64_w, i32_w]
        rfl
      refine pure_ (i := 6) (N := some 31) (v := ?_) (a' := ?_) #[true, true, true, true, true, true, true, false, false, false, false, false, false, false, false, false, false, false, false] rfl rfl (by kernel_rfl) (fun _ _ _ h => h) (Or.inl ⟨by rfl, ?_⟩) ?_ ?_
      rotate_left
      · intro w'
        go_simp
        with_reducible rfl
      rotate_left
      · simp only [Act.put, List.setIfInBounds_toArray, List.set_cons_zero, List.set_cons_succ, i64_w, i32_w]
        rfl
      refine pure_ (i := 7) (N := some 32) (v := ?_) (a' := ?_) #[true, true, true, true, true, true, true, true, false, false, false, false, false, false, false, false, false, false, false] rfl rfl (by kernel_rfl) (fun _ _ _ h => h) (Or.inl ⟨by rfl, ?_⟩) ?_ ?_
      rotate_left
      · intro w'
        go_simp
        with_reducible rfl
      rotate_left
      · simp only [Act.put, List.setIfInBounds_toArray, List.set_cons_zero, List.set_cons_succ, i64_w, i32_w]
        rfl
      refine pure_ (i := 8) (N := some 33) (v := ?_) (a' := ?_) #[true, true, true, true, true, true, true, true, true, false, false, false, false, false, false, false, false, false, false] rfl rfl (by kernel_rfl) (fun _ _ _ h => h) (Or.inl ⟨by rfl, ?_⟩) ?_ ?_
      rotate_left
      · intro w'
        go_simp
        with_reducible rfl
      rotate_left
      · simp only [Act.put, List.setIfInBounds_toArray, List.set_cons_zero, List.set_cons_succ, i64_w, i32_w]
        rfl
      refine pure_ (i := 9) (N := some 34) (v := ?_) (a' := ?_) #[true, true, true, true, true, true, true, true, true, true, false, false, false, false, false, false, false, false, false] rfl rfl (by kernel_rfl) (fun _ _ _ h => h) (Or.inl ⟨by rfl, ?_⟩) ?_ ?_
      rotate_left
      · intro w'
        go_simp
        with_reducible rfl
      rotate_left
      · simp only [Act.put, List.setIfInBounds_toArray, List.set_cons_zero, List.set_cons_succ, i64_w, i32_w]
        rfl
      refine pure_ (i := 12) (N := some 37) (v := ?_) (a' := ?_) #[true, true, true, true, true, true, true, true, true, true, false, false, true, false, false, false, false, false, false] rfl rfl (by kernel_rfl) (fun _ _ _ h => h) (Or.inl ⟨by rfl, ?_⟩) ?_ ?_
      rotate_left
      · intro w'
        go_simp
        with_reducible rfl
      rotate_left
      · simp only [Act.put, List.setIfInBounds_toArray, List.set_cons_zero, List.set_cons_succ, i64_w, i32_w]
        rfl
      refine pure_ (i := 13) (N := some 38) (v := ?_) (a' := ?_) #[true, true, true, true, true, true, true, true, true, true, false, false, true, true, false, false, false, false, false] rfl rfl (by kernel_rfl) (fun _ _ _ h => h) (Or.inl ⟨by rfl, ?_⟩) ?_ ?_
      rotate_left
      · intro w'
        go_simp
        with_reducible rfl
      rotate_left
      · simp only [Act.put, List.setIfInBounds_toArray, List.set_cons_zero, List.set_cons_succ, i64_w, i32_w]
        rfl
      refine pure_ (i := 14) (N := some 39) (v := ?_) (a' := ?_) #[true, true, true, true, true, true, true, true, true, true, false, false, true, true, true, false, false, false, false] rfl rfl (by kernel_rfl) (fun _ _ _ h => h) (Or.inl ⟨by rfl, ?_⟩) ?_ ?_
      rotate_left
      · intro w'
        go_simp
        with_reducible rfl
      rotate_left
      · simp only [Act.put, List.setIfInBounds_toArray, List.set_cons_zero, List.set_cons_succ, i64_w, i32_w]
        rfl
      refine take_ (i := 10) (N := some 35) (v := ?_) (a' := ?_) #[true, true, true, true, true, true, true, true, true, true, true, false, true, true, true, false, false, false, false] rfl rfl (by kernel_rfl) (fun _ _ _ h => h) (Or.inl ⟨by rfl, ?_⟩) hHeld ?_ ?_
      rotate_left
      · intro w' hS
        have s_ := (blk_cell (blk_below HST.out hS) 2).trans (rfl : _ = some (.slice A n c : Value))
        go_simp
        with_reducible rfl
      rotate_left
      · simp only [Act.put, List.setIfInBounds_toArray, List.set_cons_zero, List.set_cons_succ, i64_w, i32_w]
        rfl
      refine pure_ (i := 11) (N := some 36) (v := ?_) (a' := ?_) #[true, true, true, true, true, true, true, true, true, true, true, true, true, true, true, false, false, false, false] rfl rfl (by kernel_rfl) (fun _ _ _ h => h) (Or.inl ⟨by rfl, ?_⟩) ?_ ?_
      rotate_left
      · intro w'
        go_simp
        with_reducible rfl
      rotate_left
      · simp only [Act.put, List.setIfInBounds_toArray, List.set_cons_zero, List.set_cons_succ, i64_w, i32_w]
        rfl
      refine take_ (i := 15) (N := some 40) (v := ?_) (a' := ?_) #[true, true, true, true, true, true, true, true, true, true, true, true, true, true, true, true, false, false, false] rfl rfl (by kernel_rfl) (fun _ _ _ h => h) (Or.inl ⟨by rfl, ?_⟩) hHeld ?_ ?_
      rotate_left
      · intro w' hS
        have s_ := (blk_cell (blk_below HST.out hS) 0).trans (rfl : _ = some (.int .i64 room : Value))
        go_simp
        with_reducible rfl
      rotate_left
      · simp only [Act.put, List.setIfInBounds_toArray, List.set_cons_zero, List.set_cons_succ, i64_w, i32_w]
        rfl
      refine pure_ (i := 16) (N := some 41) (v := ?_) (a' := ?_) #[true, true, true, true, true, true, true, true, true, true, true, true, true, true, true, true, true, false, false] rfl rfl (by kernel_rfl) (fun _ _ _ h => h) (Or.inl ⟨by rfl, ?_⟩) ?_ ?_
      rotate_left
      · intro w'
        go_simp
        with_reducible rfl
      rotate_left
      · simp only [Act.put, List.setIfInBounds_toArray, List.set_cons_zero, List.set_cons_succ, i64_w, i32_w]
        rfl
      refine pure_ (i := 17) (N := some 42) (v := ?_) (a' := ?_) #[true, true, true, true, true, true, true, true, true, true, true, true, true, true, true, true, true, true, false] rfl rfl (by kernel_rfl) (fun _ _ _ h => h) (Or.inl ⟨by rfl, ?_⟩) ?_ ?_
      rotate_left
      · intro w'
        go_simp
        with_reducible rfl
      rotate_left
      · simp only [Act.put, List.setIfInBounds_toArray, List.set_cons_zero, List.set_cons_succ, i64_w, i32_w]
        rfl
      refine pure_ (i := 18) (N := some 24) (v := ?_) (a' := ?_) #[true, true, true, true, true, true, true, true, true, true, true, true, true, true, true, true, true, true, true] rfl rfl (by kernel_rfl) (fun _ _ _ h => h) (Or.inl ⟨by rfl, ?_⟩) ?_ ?_
      rotate_left
      · intro w'
        go_simp
        with_reducible rfl
      rotate_left
      · simp only [Act.put, List.setIfInBounds_toArray, List.set_cons_zero, List.set_cons_succ, i64_w, i32_w]
        rfl
      refine done_ (by kernel_rfl) ?_

      have HB := Aside0.mk hHeld
      clear hHeld
      go_wp2_with fail
      go_meet
      case rel => exact ⟨rfl, HB⟩
    · have hz1 : (((m0 : Nat) : Int) == 0) = false := by simp; omega
      clear hz
      refine start_ (n := 19) (S := fun w' => Below w.heap.size w w') (ds := []) #[false, false, false, false, false, false, false, false, false, false, false, false, false, false, false, false, false, false, false] (by kernel_rfl) rfl rfl (below_drew (Below.refl _ _)) (fun hHeld => ?_)
      refine pure_ (i := 0) (N := some 25) (v := ?_) (a' := ?_) #[true, false, false, false, false, false, false, false, false, false, false, false, false, false, false, false, false, false, false] rfl rfl (by kernel_rfl) (fun _ _ _ h => h) (Or.inl ⟨by rfl, ?_⟩) ?_ ?_
      rotate_left
      · intro w'
        go_simp
        with_reducible rfl
      rotate_left
      · simp only [Act.put, List.setIfInBounds_toArray, List.set_cons_zero, List.set_cons_succ, i64_w, i32_w]
        rfl
      refine pure_ (i := 1) (N := some 26) (v := ?_) (a' := ?_) #[true, true, false, false, false, false, false, false, false, false, false, false, false, false, false, false, false, false, false] rfl rfl (by kernel_rfl) (fun _ _ _ h => h) (Or.inl ⟨by rfl, ?_⟩) ?_ ?_
      rotate_left
      · intro w'
        go_simp
        with_reducible rfl
      rotate_left
      · simp only [Act.put, List.setIfInBounds_toArray, List.set_cons_zero, List.set_cons_succ, i64_w, i32_w]
        rfl
      refine pure_ (i := 2) (N := some 27) (v := ?_) (a' := ?_) #[true, true, true, false, false, false, false, false, false, false, false, false, false, false, false, false, false, false, false] rfl rfl (by kernel_rfl) (fun _ _ _ h => h) (Or.inl ⟨by rfl, ?_⟩) ?_ ?_
      rotate_left
      · intro w'
        go_simp
        with_reducible rfl
      rotate_left
      · simp only [Act.put, List.setIfInBounds_toArray, List.set_cons_zero, List.set_cons_succ, i64_w, i32_w]
        rfl
      refine one_ (i := 3) (N := some 28) #[true, true, true, true, false, false, false, false, false, false, false, false, false, false, false, false, false, false, false] rfl rfl (by kernel_rfl) (by simp) (fun K hK => ?_)
      refine goes_ Try.func12 (by kernel_rfl) rfl #[.pointer (some ⟨b, 0, none⟩), .int .i64 key, .int .i64 t] (by rfl) rfl rfl (by simp only [List.map_toArray, List.map_cons, List.map_nil]; rfl) ?_
      with_reducible refine (find_yes base b room gap (.slice A n c) L key t _ (HK.out.below hHeld) HMT.out).mono ?_
      rintro e w3 ⟨v0, rfl, ho_, hb_⟩
      refine ⟨_, rfl, ?_⟩
      replace hb_ := below_step hHeld hb_
      refine hK.out _ _ hb_ (fun _ => ?_)
      clear hK K
      refine norm_ (a' := ?_) ?_ ?_
      rotate_left
      · show Act.put _ (some 28) _ = _
        simp only [Act.put, List.setIfInBounds_toArray, List.set_cons_zero, List.set_cons_succ, i64_w, i32_w]
        rfl
      replace hHeld := hb_
      obtain ⟨A0, c0, rfl, _, _⟩ := slice_of ho_
      rw [HM0.out]
      clear ho_
      clear hb_
      refine pure_ (i := 4) (N := some 29) (v := ?_) (a' := ?_) #[true, true, true, true, true, false, false, false, false, false, false, false, false, false, false, false, false, false, false] rfl rfl (by kernel_rfl) (fun _ _ _ h => h) (Or.inl ⟨by rfl, ?_⟩) ?_ ?_
      rotate_left
      · intro w'
        go_simp
        with_reducible rfl
      rotate_left
      · simp only [Act.put, List.setIfInBounds_toArray, List.set_cons_zero, List.set_cons_succ, i64_w, i32_w]
        rfl
      refine pure_ (i := 5) (N := some 30) (v := ?_) (a' := ?_) #[true, true, true, true, true, true, false, false, false, false, false, false, false, false, false, false, false, false, false] rfl rfl (by kernel_rfl) (fun _ _ _ h => h) (Or.inl ⟨by rfl, ?_⟩) ?_ ?_
      rotate_left
      · intro w'
        go_simp
        with_reducible rfl
      rotate_left
      · simp only [Act.put, List.setIfInBounds_toArray, List.set_cons_zero, List.set_cons_succ, i64_w, i32_w]
        rfl
      refine pure_ (i := 6) (N := some 31) (v := ?_) (a' := ?_) #[true, true, true, true, true, true, true, false, false, false, false, false, false, false, false, false, false, false, false] rfl rfl (by kernel_rfl) (fun _ _ _ h => h) (Or.inl ⟨by rfl, ?_⟩) ?_ ?_
      rotate_left
      · intro w'
        go_simp
        with_reducible rfl
      rotate_left
      · simp only [Act.put, List.setIfInBounds_toArray, List.set_cons_zero, List.set_cons_succ, i64_w, i32_w]
        rfl
      refine pure_ (i := 7) (N := some 32) (v := undef) (a' := ?_) #[true, true, true, true, true, true, true, true, false, false, false, false, false, false, false, false, false, false, false] rfl rfl (by kernel_rfl) (fun _ _ _ h => h) (Or.inr ⟨by rfl, rfl⟩) ?_ ?_
      rotate_left
      · simp only [Act.put, List.setIfInBounds_toArray, List.set_cons_zero, List.set_cons_succ, i64_w, i32_w]
        rfl
      refine pure_ (i := 8) (N := some 33) (v := undef) (a' := ?_) #[true, true, true, true, true, true, true, true, true, false, false, false, false, false, false, false, false, false, false] rfl rfl (by kernel_rfl) (fun _ _ _ h => h) (Or.inr ⟨by rfl, rfl⟩) ?_ ?_
      rotate_left
      · simp only [Act.put, List.setIfInBounds_toArray, List.set_cons_zero, List.set_cons_succ, i64_w, i32_w]
        rfl
      refine pure_ (i := 9) (N := some 34) (v := undef) (a' := ?_) #[true, true, true, true, true, true, true, true, true, true, false, false, false, false, false, false, false, false, false] rfl rfl (by kernel_rfl) (fun _ _ _ h => h) (Or.inr ⟨by rfl, rfl⟩) ?_ ?_
      rotate_left
      · simp only [Act.put, List.setIfInBounds_toArray, List.set_cons_zero, List.set_cons_succ, i64_w, i32_w]
        rfl
      refine pure_ (i := 10) (N := some 35) (v := undef) (a' := ?_) #[true, true, true, true, true, true, true, true, true, true, true, false, false, false, false, false, false, false, false] rfl rfl (by kernel_rfl) (fun _ _ _ h => h) (Or.inr ⟨by rfl, rfl⟩) ?_ ?_
      rotate_left
      · simp only [Act.put, List.setIfInBounds_toArray, List.set_cons_zero, List.set_cons_succ, i64_w, i32_w]
        rfl
      refine pure_ (i := 11) (N := some 36) (v := undef) (a' := ?_) #[true, true, true, true, true, true, true, true, true, true, true, true, false, false, false, false, false, false, false] rfl rfl (by kernel_rfl) (fun _ _ _ h => h) (Or.inr ⟨by rfl, rfl⟩) ?_ ?_
      rotate_left
      · simp only [Act.put, List.setIfInBounds_toArray, List.set_cons_zero, List.set_cons_succ, i64_w, i32_w]
        rfl
      refine pure_ (i := 12) (N := some 37) (v := undef) (a' := ?_) #[true, true, true, true, true, true, true, true, true, true, true, true, true, false, false, false, false, false, false] rfl rfl (by kernel_rfl) (fun _ _ _ h => h) (Or.inr ⟨by rfl, rfl⟩) ?_ ?_
      rotate_left
      · simp only [Act.put, List.setIfInBounds_toArray, List.set_cons_zero, List.set_cons_succ, i64_w, i32_w]
        rfl
      refine pure_ (i := 13) (N := some 38) (v := undef) (a' := ?_) #[true, true, true, true, true, true, true, true, true, true, true, true, true, true, false, false, false, false, false] rfl rfl (by kernel_rfl) (fun _ _ _ h => h) (Or.inr ⟨by rfl, rfl⟩) ?_ ?_
      rotate_left
      · simp only [Act.put, List.setIfInBounds_toArray, List.set_cons_zero, List.set_cons_succ, i64_w, i32_w]
        rfl
      refine pure_ (i := 14) (N := some 39) (v := undef) (a' := ?_) #[true, true, true, true, true, true, true, true, true, true, true, true, true, true, true, false, false, false, false] rfl rfl (by kernel_rfl) (fun _ _ _ h => h) (Or.inr ⟨by rfl, rfl⟩) ?_ ?_
      rotate_left
      · simp only [Act.put, List.setIfInBounds_toArray, List.set_cons_zero, List.set_cons_succ, i64_w, i32_w]
        rfl
      refine pure_ (i := 15) (N := some 40) (v := undef) (a' := ?_) #[true, true, true, true, true, true, true, true, true, true, true, true, true, true, true, true, false, false, false] rfl rfl (by kernel_rfl) (fun _ _ _ h => h) (Or.inr ⟨by rfl, rfl⟩) ?_ ?_
      rotate_left
      · simp only [Act.put, List.setIfInBounds_toArray, List.set_cons_zero, List.set_cons_succ, i64_w, i32_w]
        rfl
      refine pure_ (i := 16) (N := some 41) (v := undef) (a' := ?_) #[true, true, true, true, true, true, true, true, true, true, true, true, true, true, true, true, true, false, false] rfl rfl (by kernel_rfl) (fun _ _ _ h => h) (Or.inr ⟨by rfl, rfl⟩) ?_ ?_
      rotate_left
      · simp only [Act.put, List.setIfInBounds_toArray, List.set_cons_zero, List.set_cons_succ, i64_w, i32_w]
        rfl
      refine pure_ (i := 17) (N := some 42) (v := ?_) (a' := ?_) #[true, true, true, true, true, true, true, true, true, true, true, true, true, true, true, true, true, true, false] rfl rfl (by kernel_rfl) (fun _ _ _ h => h) (Or.inl ⟨by rfl, ?_⟩) ?_ ?_
      rotate_left
      · intro w'
        go_simp
        with_reducible rfl
      rotate_left
      · simp only [Act.put, List.setIfInBounds_toArray, List.set_cons_zero, List.set_cons_succ, i64_w, i32_w]
        rfl
      refine pure_ (i := 18) (N := some 24) (v := ?_) (a' := ?_) #[true, true, true, true, true, true, true, true, true, true, true, true, true, true, true, true, true, true, true] rfl rfl (by kernel_rfl) (fun _ _ _ h => h) (Or.inl ⟨by rfl, ?_⟩) ?_ ?_
      rotate_left
      · intro w'
        go_simp
        with_reducible rfl
      rotate_left
      · simp only [Act.put, List.setIfInBounds_toArray, List.set_cons_zero, List.set_cons_succ, i64_w, i32_w]
        rfl
      refine done_ (by kernel_rfl) ?_

      have HB := Aside0.mk hHeld
      clear hHeld
      go_wp2_with fail
      go_meet
      case rel => exact ⟨rfl, HB⟩
  case rest =>
  obtain ⟨rfl, HB⟩ := hcut
  have s_ := (blk_cell (blk_below HST.out HB.out) 2).trans (rfl : _ = some (.slice A n c : Value))
  clear HM0 HRM
  go_wp2_with fail
  clear s_
  go_loopw [10, 11, 12, 13, 50] (fun v10 v11 v12 v13 v50 wr => ∃ (i m k : Nat) (fa lb : Int), i ≤ n ∧ m ≤ i ∧ k ≤ i ∧ v50 = .int .i64 (i : Int) ∧ v10 = .int .i64 fa ∧ v11 = .int .i64 lb ∧ Aside0 (firstL t (findL gap (L.take i) key t) = fa ∧ lastL t (findL gap (L.take i) key t) = lb) ∧ Aside0 ((findL gap (L.take i) key t).length = m) ∧ Aside0 ((stayL gap (L.take i) key t).length = k) ∧ Aside0 (wr.ownsRow w.heap.size 33 5 v12 m (cellsC ((findL gap (L.take i) key t).map gonOf))) ∧ Aside0 (wr.ownsRow w.heap.size 53 3 v13 k (cellsS (stayL gap (L.take i) key t))) ∧ Aside0 (Below w.heap.size w wr)) (fun _ _ _ _ v50 _ => n - (intOf v50).toNat)
  case atStart => exact ⟨0, 0, 0, t, t, by omega, by omega, by omega, rfl, rfl, rfl, ⟨⟨rfl, rfl⟩⟩, ⟨rfl⟩, ⟨rfl⟩, ⟨World.ownsRow_nil _ _ _ _⟩, ⟨World.ownsRow_nil _ _ _ _⟩, HB⟩
  case round =>
    clear HB
    obtain ⟨i, m, k, fa, lb, hi, hmi, hki, rfl, rfl, rfl, HFL, HL1, HL2', HO, HY, HB⟩ := hrel
    by_cases hlt : i < n
    · have h1 : decide ((i : Int) < (n : Int)) = true := by simp; omega
      have h1b : decide (i < n) = true := by simp; omega
      obtain ⟨p, hp⟩ : ∃ p, L[i]? = some p := ⟨_, List.getElem?_eq_getElem (by rw [HN.out]; omega)⟩
      obtain ⟨g, hA, hc⟩ := own_cells (A := A) (c := c) HK.out.row (by rw [HN.out]) hp
      obtain ⟨x1, x2, x3⟩ := hc wr HB.out
      have HT := Aside0.mk (find_snoc (g := gap) (key := key) (t := t) hp)
      have HTS := Aside0.mk (stay_snoc (g := gap) (key := key) (t := t) hp)
      have HPS := Aside0.mk (HSP.out p (List.mem_of_getElem? hp))
      obtain ⟨ps, HPZ⟩ : ∃ ps, Aside0 (findL gap (L.take i) key t = ps) := ⟨_, ⟨rfl⟩⟩
      obtain ⟨ys, HYZ⟩ : ∃ ps, Aside0 (stayL gap (L.take i) key t = ps) := ⟨_, ⟨rfl⟩⟩
      rw [HPZ.out] at HT HO HL1 HFL
      rw [HYZ.out] at HTS HY HL2'
      subst hA
      clear hp hc
      go_upto_region 13 with fail
      clear x1 x2 x3
      have BP := Aside0.mk (heap_alloc_new wr (.cells #[.int .i64 p.k, spanV p.a p.b, .int .i64 p.v] 53))
      have hb_ := below_alloc (Below.refl wr.heap.size wr) (.cells #[.int .i64 p.k, spanV p.a p.b, .int .i64 p.v] 53)
      have hs_ : (wr.alloc (.cells #[.int .i64 p.k, spanV p.a p.b, .int .i64 p.v] 53)).heap.size = wr.heap.size + 1 := by simp
      generalize wr.alloc (.cells #[.int .i64 p.k, spanV p.a p.b, .int .i64 p.v] 53) = wr2 at BP hb_ hs_ ⊢
      replace HB := Aside0.mk (below_step HB.out hb_)
      replace HO := Aside0.mk (own_below HO.out hb_)
      replace HY := Aside0.mk (own_below HY.out hb_)
      clear hb_

      clear hs_
      have z0_ := (blk_cell BP.out 0).trans (rfl : _ = some (.int .i64 p.k : Value))
      have z1_ := (blk_cell BP.out 1).trans (rfl : _ = some (spanV p.a p.b : Value))
      have z2_ := (blk_cell BP.out 2).trans (rfl : _ = some (.int .i64 p.v : Value))

      have HST1 := Aside0.mk (blk_below HST.out HB.out)
      go_wp2_with fail
      refine (touches_any b room gap (.slice (some ⟨g, 0, none⟩) n c) p key t _ HPS.out HGP.out HST1.out).mono ?_
      rintro e w3 ⟨rfl, hb_⟩
      replace HO := Aside0.mk (own_below HO.out hb_)
      replace HY := Aside0.mk (own_below HY.out hb_)
      replace HB := Aside0.mk (below_step HB.out hb_)
      replace BP := Aside0.mk (blk_below BP.out hb_)
      have HBS : Aside0 (w.heap.size ≤ w3.heap.size) := ⟨HB.out.size⟩
      clear hb_ z0_ z1_ z2_ HST1
      obtain ⟨q, HQ⟩ : ∃ q, Aside0 (touchB gap key t p = q) := ⟨_, ⟨rfl⟩⟩
      rw [HQ.out] at HT HTS ⊢
      cases q with
      | false =>
        have HT2 : Aside0 (findL gap (L.take (i + 1)) key t = ps) := ⟨by rw [HT.out]; simp⟩
        have HTS2 : Aside0 (stayL gap (L.take (i + 1)) key t = ys ++ [p]) := ⟨by rw [HTS.out]; simp⟩
        have HOL := Aside0.mk (own_lt' HY.out)
        clear HT HTS
        have z0_ := (blk_cell BP.out 0).trans (rfl : _ = some (.int .i64 p.k : Value))
        have z1_ := (blk_cell BP.out 1).trans (rfl : _ = some (spanV p.a p.b : Value))
        have z2_ := (blk_cell BP.out 2).trans (rfl : _ = some (.int .i64 p.v : Value))

        go_wp2_with (at_builtin; refine wpList_appS _ rfl _ _ rfl w.heap.size k u13 ys (p) rfl HY.out rfl (by omega) ?_ ?_; exact HBS.out; intro v31 w31 ho_ hg_ hh_ hs_; obtain ⟨A31, c31, rfl⟩ := hs_)
        have HOD : Aside0 (w31.ownsRow w.heap.size 33 5 u12 m (cellsC (ps.map gonOf))) := ⟨own_kept HO.out fun j hj => by
          obtain ⟨cur, hcur⟩ := own_block HO.out hj
          refine hg_.block j (blk_lt hcur) (fun e => ?_)
          obtain ⟨cur2, hcur2⟩ := own_block HY.out e
          exact blk_types hcur hcur2 (by decide) rfl⟩
        go_roundw
        case rel => exact ⟨i + 1, m, k + 1, fa, lb, by omega, by omega, by omega, by go_num, rfl, rfl, ⟨by rw [HT2.out]; exact HFL.out⟩, ⟨by rw [HT2.out]; exact HL1.out⟩, ⟨by rw [HTS2.out, List.length_append, HL2'.out]; rfl⟩, ⟨by rw [HT2.out]; exact HOD.out⟩, ⟨by rw [HTS2.out]; exact ho_⟩, ⟨HB.out.grown hg_ HBS.out (fun k hk => (HOL.out k hk).1)⟩⟩
        case measure => simp [intOf]; omega
      | true =>
        have HT2 : Aside0 (findL gap (L.take (i + 1)) key t = ps ++ [p]) := ⟨by rw [HT.out]; simp⟩
        have HTS2 : Aside0 (stayL gap (L.take (i + 1)) key t = ys) := ⟨by rw [HTS.out]; simp⟩
        clear HT HTS
        go_upto_region 15 with fail
        refine start_ (n := 10) (S := fun w' => Below w3.heap.size w3 w') (ds := []) #[false, false, false, false, false, false, false, false, false, false] (by kernel_rfl) rfl rfl (below_drew (Below.refl _ _)) (fun hHeld => ?_)
        refine pure_ (i := 0) (N := some 64) (v := ?_) (a' := ?_) #[true, false, false, false, false, false, false, false, false, false] rfl rfl (by kernel_rfl) (fun _ _ _ h => h) (Or.inl ⟨by rfl, ?_⟩) ?_ ?_
        rotate_left
        · intro w'
          go_simp
          with_reducible rfl
        rotate_left
        · simp only [Act.put, List.setIfInBounds_toArray, List.set_cons_zero, List.set_cons_succ, i64_w, i32_w]
          rfl
        refine pure_ (i := 4) (N := some 68) (v := ?_) (a' := ?_) #[true, false, false, false, true, false, false, false, false, false] rfl rfl (by kernel_rfl) (fun _ _ _ h => h) (Or.inl ⟨by rfl, ?_⟩) ?_ ?_
        rotate_left
        · intro w'
          go_simp
          with_reducible rfl
        rotate_left
        · simp only [Act.put, List.setIfInBounds_toArray, List.set_cons_zero, List.set_cons_succ, i64_w, i32_w]
          rfl
        refine take_ (i := 1) (N := some 65) (v := ?_) (a' := ?_) #[true, true, false, false, true, false, false, false, false, false] rfl rfl (by kernel_rfl) (fun _ _ _ h => h) (Or.inl ⟨by rfl, ?_⟩) hHeld ?_ ?_
        rotate_left
        · intro w' hS
          have z0_ := (blk_cell (blk_below BP.out hS) 0).trans (rfl : _ = some (.int .i64 p.k : Value))
          have z1_ := (blk_cell (blk_below BP.out hS) 1).trans (rfl : _ = some (spanV p.a p.b : Value))
          have z2_ := (blk_cell (blk_below BP.out hS) 2).trans (rfl : _ = some (.int .i64 p.v : Value))
          go_simp
          with_reducible rfl
        rotate_left
        · simp only [Act.put, List.setIfInBounds_toArray, List.set_cons_zero, List.set_cons_succ, i64_w, i32_w]
          rfl
        refine take_ (i := 5) (N := some 69) (v := ?_) (a' := ?_) #[true, true, false, false, true, true, false, false, false, false] rfl rfl (by kernel_rfl) (fun _ _ _ h => h) (Or.inl ⟨by rfl, ?_⟩) hHeld ?_ ?_
        rotate_left
        · intro w' hS
          have z0_ := (blk_cell (blk_below BP.out hS) 0).trans (rfl : _ = some (.int .i64 p.k : Value))
          have z1_ := (blk_cell (blk_below BP.out hS) 1).trans (rfl : _ = some (spanV p.a p.b : Value))
          have z2_ := (blk_cell (blk_below BP.out hS) 2).trans (rfl : _ = some (.int .i64 p.v : Value))
          go_simp
          with_reducible rfl
        rotate_left
        · simp only [Act.put, List.setIfInBounds_toArray, List.set_cons_zero, List.set_cons_succ, i64_w, i32_w]
          rfl
        refine one_ (i := 2) (N := some 66) #[true, true, true, false, true, true, false, false, false, false] rfl rfl (by kernel_rfl) (by simp) (fun K hK => ?_)
        refine goes_ Try.func19 (by kernel_rfl) rfl #[.agg #[.int .i64 p.k, spanV p.a p.b, .int .i64 p.v]] (by rfl) rfl rfl (by simp only [List.map_toArray, List.map_cons, List.map_nil]; rfl) ?_
        with_reducible refine (from_ok p HPS.out _).mono ?_
        rintro e w4 ⟨rfl, hb_⟩
        refine ⟨_, rfl, ?_⟩
        replace hb_ := below_step hHeld hb_
        refine hK.out _ _ hb_ (fun _ => ?_)
        clear hK K
        refine norm_ (a' := ?_) ?_ ?_
        rotate_left
        · show Act.put _ (some 66) _ = _
          simp only [Act.put, List.setIfInBounds_toArray, List.set_cons_zero, List.set_cons_succ, i64_w, i32_w]
          rfl
        replace hHeld := hb_
        clear hb_
        refine pure_ (i := 3) (N := some 67) (v := ?_) (a' := ?_) #[true, true, true, true, true, true, false, false, false, false] rfl rfl (by kernel_rfl) (fun _ _ _ h => h) (Or.inl ⟨by rfl, ?_⟩) ?_ ?_
        rotate_left
        · intro w'
          go_simp
          with_reducible rfl
        rotate_left
        · simp only [Act.put, List.setIfInBounds_toArray, List.set_cons_zero, List.set_cons_succ, i64_w, i32_w]
          rfl
        refine one_ (i := 6) (N := some 70) #[true, true, true, true, true, true, true, false, false, false] rfl rfl (by kernel_rfl) (by simp) (fun K hK => ?_)
        refine goes_ Try.func20 (by kernel_rfl) rfl #[.agg #[.int .i64 p.k, spanV p.a p.b, .int .i64 p.v]] (by rfl) rfl rfl (by simp only [List.map_toArray, List.map_cons, List.map_nil]; rfl) ?_
        with_reducible refine (to_ok p HPS.out _).mono ?_
        rintro e w5 ⟨rfl, hb_⟩
        refine ⟨_, rfl, ?_⟩
        replace hb_ := below_step hHeld hb_
        refine hK.out _ _ hb_ (fun _ => ?_)
        clear hK K
        refine norm_ (a' := ?_) ?_ ?_
        rotate_left
        · show Act.put _ (some 70) _ = _
          simp only [Act.put, List.setIfInBounds_toArray, List.set_cons_zero, List.set_cons_succ, i64_w, i32_w]
          rfl
        replace hHeld := hb_
        clear hb_
        refine pure_ (i := 7) (N := some 71) (v := ?_) (a' := ?_) #[true, true, true, true, true, true, true, true, false, false] rfl rfl (by kernel_rfl) (fun _ _ _ h => h) (Or.inl ⟨by rfl, ?_⟩) ?_ ?_
        rotate_left
        · intro w'
          go_simp
          with_reducible rfl
        rotate_left
        · simp only [Act.put, List.setIfInBounds_toArray, List.set_cons_zero, List.set_cons_succ, i64_w, i32_w]
          rfl
        refine pure_ (i := 8) (N := some 10) (v := ?_) (a' := ?_) #[true, true, true, true, true, true, true, true, true, false] rfl rfl (by kernel_rfl) (fun _ _ _ h => h) (Or.inl ⟨by rfl, ?_⟩) ?_ ?_
        rotate_left
        · intro w'
          go_simp
          with_reducible rfl
        rotate_left
        · simp only [Act.put, List.setIfInBounds_toArray, List.set_cons_zero, List.set_cons_succ, i64_w, i32_w]
          rfl
        refine pure_ (i := 9) (N := some 11) (v := ?_) (a' := ?_) #[true, true, true, true, true, true, true, true, true, true] rfl rfl (by kernel_rfl) (fun _ _ _ h => h) (Or.inl ⟨by rfl, ?_⟩) ?_ ?_
        rotate_left
        · intro w'
          go_simp
          with_reducible rfl
        rotate_left
        · simp only [Act.put, List.setIfInBounds_toArray, List.set_cons_zero, List.set_cons_succ, i64_w, i32_w]
          rfl
        refine done_ (by kernel_rfl) ?_

        replace HO := Aside0.mk (own_below HO.out hHeld)
        replace HY := Aside0.mk (own_below HY.out hHeld)
        replace HB := Aside0.mk (below_step HB.out hHeld)
        replace BP := Aside0.mk (blk_below BP.out hHeld)
        clear hHeld
        obtain ⟨fa2, HFA2⟩ : ∃ y, Aside0 ((if p.a < fa then p.a else fa) = y) := ⟨_, ⟨rfl⟩⟩
        obtain ⟨lb2, HLB2⟩ : ∃ y, Aside0 ((if lb < p.b then p.b else lb) = y) := ⟨_, ⟨rfl⟩⟩
        rw [HFA2.out, HLB2.out]
        obtain ⟨pm, HPM⟩ : ∃ pm, Aside0 (ps.map gonOf = pm) := ⟨_, ⟨rfl⟩⟩
        rw [HPM.out] at HO
        have z0_ := (blk_cell BP.out 0).trans (rfl : _ = some (.int .i64 p.k : Value))
        have z1_ := (blk_cell BP.out 1).trans (rfl : _ = some (spanV p.a p.b : Value))
        have z2_ := (blk_cell BP.out 2).trans (rfl : _ = some (.int .i64 p.v : Value))

        go_wp2_with fail
        refine (gone_ok p HPS.out _).mono ?_
        rintro e w6 ⟨rfl, hb_⟩
        unfold goneV
        replace HO := Aside0.mk (own_below HO.out hb_)
        replace HY := Aside0.mk (own_below HY.out hb_)
        replace HB := Aside0.mk (below_step HB.out hb_)
        replace HBS : Aside0 (w.heap.size ≤ w6.heap.size) := ⟨HB.out.size⟩
        have HOL := Aside0.mk (own_lt' HO.out)
        clear hb_ z0_ z1_ z2_ BP
        go_wp2_with (at_builtin; refine wpList_appC _ rfl _ _ rfl w.heap.size m u12 pm (gonOf p) rfl HO.out rfl (by omega) ?_ ?_; exact HBS.out; intro v31 w31 ho_ hg_ hh_ hs_; obtain ⟨A31, c31, rfl⟩ := hs_)
        have HYD : Aside0 (w31.ownsRow w.heap.size 53 3 u13 k (cellsS ys)) := ⟨own_kept HY.out fun j hj => by
          obtain ⟨cur, hcur⟩ := own_block HY.out hj
          refine hg_.block j (blk_lt hcur) (fun e => ?_)
          obtain ⟨cur2, hcur2⟩ := own_block HO.out e
          exact blk_types hcur hcur2 (by decide) rfl⟩
        go_roundw
        case rel => exact ⟨i + 1, m + 1, k, fa2, lb2, by omega, by omega, by omega, by go_num, rfl, rfl, ⟨by rw [HT2.out, first_snoc, last_snoc, HFL.out.1, HFL.out.2]; exact ⟨HFA2.out, HLB2.out⟩⟩, ⟨by rw [HT2.out, List.length_append, HL1.out]; rfl⟩, ⟨by rw [HTS2.out]; exact HL2'.out⟩, ⟨by rw [HT2.out, List.map_append, HPM.out]; exact ho_⟩, ⟨by rw [HTS2.out]; exact HYD.out⟩, ⟨HB.out.grown hg_ HBS.out (fun k hk => (HOL.out k hk).1)⟩⟩
        case measure => simp [intOf]; omega
    · obtain rfl : n = i := by omega
      have HLT : Aside0 (L.take n = L) := ⟨by rw [← HN.out, List.take_length]⟩
      rw [HLT.out] at HFL HL1 HL2' HO HY
      obtain ⟨T, HT⟩ : ∃ y, Aside0 (findL gap L key t = y) := ⟨_, ⟨rfl⟩⟩
      obtain ⟨Y, HYE⟩ : ∃ y, Aside0 (stayL gap L key t = y) := ⟨_, ⟨rfl⟩⟩
      have HXE : Aside0 (putX gap L key t val = ⟨key, fa, lb, val⟩) := ⟨by unfold putX; rw [HFL.out.1, HFL.out.2]⟩
      have HM3 := HM2
      have HL3 := HL2
      unfold putS at HL3
      rw [HXE.out, HT.out] at HM3
      rw [HXE.out, HYE.out] at HL3
      rw [HXE.out] at HXS
      rw [HXE.out, HYE.out] at HXF
      rw [HYE.out] at HST8 HL2' HY
      rw [HT.out] at HFL HL1 HO
      have HSUB : Aside0 (Y.Sublist L) := ⟨by rw [← HYE.out]; exact List.filter_sublist⟩
      have HTM : Aside0 (∀ x ∈ T, x ∈ L) := ⟨fun x hx => by rw [← HT.out] at hx; exact (List.mem_filter.1 hx).1⟩
      obtain ⟨outs, HOE⟩ : ∃ y, Aside0 (T.map gonOf = y) := ⟨_, ⟨rfl⟩⟩
      have HOL5 : Aside0 (outs.length = m) := ⟨by rw [← HOE.out, List.length_map]; exact HL1.out⟩
      have HOM : Aside0 (∀ c ∈ outs, In40 c.f1 ∧ In40 c.f2) := ⟨fun c hc => by
        rw [← HOE.out] at hc
        obtain ⟨x, hx, rfl⟩ := List.mem_map.1 hc
        have := HSP.out x (HTM.out x hx)
        unfold Span at this
        exact ⟨⟨by show 0 ≤ x.a; omega, by show x.a ≤ _; omega⟩, ⟨by show 0 ≤ x.b; omega, by show x.b ≤ _; omega⟩⟩⟩
      rw [HOE.out] at HO HM3
      have HX40 : Aside0 (In40 fa ∧ In40 lb) := ⟨by
        have := HXS.out
        unfold Span at this
        simp only at this
        exact ⟨⟨by omega, by omega⟩, ⟨by omega, by omega⟩⟩⟩
      have hm5 : m ≤ 5000 := by omega
      obtain ⟨A12, c12, hv12, _, _⟩ := slice_of HO.out
      obtain ⟨A13, c13, hv13, _, _⟩ := slice_of HY.out
      subst hv12 hv13
      have HGY := Aside0.mk (own_lt' HY.out)
      go_wp2_with fail
      refine (times_ok fa lb wr).mono ?_
      rintro e w5 ⟨rfl, rfl⟩
      rw [show spanV fa lb = .complex .f64 (fl fa) (fl lb) from rfl]
      go_upto_region 19 with fail
      have HWS : Aside0 (w.heap.size ≤ wr.heap.size) := ⟨HB.out.size⟩
      have BX := Aside0.mk (heap_alloc_new wr (.cells #[.int .i64 key, .complex .f64 (fl fa) (fl lb), .int .i64 val] 53))
      have hb_ := below_alloc (Below.refl wr.heap.size wr) (.cells #[.int .i64 key, .complex .f64 (fl fa) (fl lb), .int .i64 val] 53)
      have hs_ : (wr.alloc (.cells #[.int .i64 key, .complex .f64 (fl fa) (fl lb), .int .i64 val] 53)).heap.size = wr.heap.size + 1 := by simp
      generalize wr.alloc (.cells #[.int .i64 key, .complex .f64 (fl fa) (fl lb), .int .i64 val] 53) = w6 at BX hb_ hs_ ⊢
      replace HB := Aside0.mk (below_step HB.out hb_)
      replace HO := Aside0.mk (own_below HO.out hb_)
      replace HY := Aside0.mk (own_below HY.out hb_)
      clear hb_

      clear hs_
      replace BX : Aside0 (w6.heap[wr.heap.size]? = some (.cells #[.int .i64 key, spanV fa lb, .int .i64 val] 53 (0, 0))) := BX
      obtain ⟨gx, HGX⟩ : ∃ g, Aside0 (wr.heap.size = g) := ⟨_, ⟨rfl⟩⟩
      rw [HGX.out] at BX HGY HWS ⊢
      go_wp2_with fail
      refine (del1_ok w.heap.size m gx ⟨key, fa, lb, val⟩ (.slice A12 m c12) outs w6 HOL5.out hm5 HO.out HOM.out HX40.out.1 HX40.out.2 BX.out).mono ?_
      rintro e w7 ⟨A7, m7, c7, rfl, hk7, ho7, hc7⟩
      have HB7 := Aside0.mk (Chg.below HB.out hc7 HB.out.size (fun j hj => (own_lt' HO.out j hj.symm).1))
      have BX7 : Aside0 (w7.heap[gx]? = some (.cells #[.int .i64 key, spanV fa lb, .int .i64 val] 53 (0, 0))) := ⟨(hc7.block gx (blk_lt BX.out) (fun e => by
        obtain ⟨cur, hcur⟩ := own_block HO.out e
        exact blk_types BX.out hcur (by decide) rfl)).trans BX.out⟩
      have HY7 : Aside0 (w7.ownsRow w.heap.size 53 3 (.slice A13 k c13) k (cellsS Y)) := ⟨own_kept HY.out fun j hj => by
        obtain ⟨cur, hcur⟩ := own_block HY.out hj
        refine hc7.block j (blk_lt hcur) (fun e => ?_)
        obtain ⟨cur2, hcur2⟩ := own_block HO.out e
        exact blk_types hcur hcur2 (by decide) rfl⟩
      have HO7 := Aside0.mk ho7
      have HK7 := Aside0.mk hk7
      clear hk7 ho7 hc7 BX
      obtain ⟨K7, HKE⟩ : ∃ y, Aside0 (outs.filter (fun c => !p1B ⟨key, fa, lb, val⟩ c) = y) := ⟨_, ⟨rfl⟩⟩
      rw [HKE.out] at HO7 HK7 HM3
      have HCB := Aside0.mk (blk_below HST.out HB7.out)
      have hCB := HCB.out
      have y1 := (blk_cell hCB 2).trans (rfl : _ = some (.slice A n c : Value))
      have y2 := blk_frozen hCB 2
      have HNB : Aside0 (∀ (j : Nat) (T : TypeId) (cs : Array Value), w7.heap[j]? = some (.cells cs T (0, 0)) → T ≠ 49 → (w7.setCell ⟨b, 2, none⟩ (.slice A13 k c13)).heap[j]? = some (.cells cs T (0, 0))) := ⟨fun j T cs hj hT => (Below.heap_setCell w7 ⟨b, 2, none⟩ _ j (blk_types hj hCB hT)).trans hj⟩
      have HS8 : Aside0 (SeS (w7.setCell ⟨b, 2, none⟩ (.slice A13 k c13)) base b room gap (.slice A13 k c13) Y) := ⟨by
        have hlY := HL2'.out
        refine ⟨HK.out.hb, blk_put hCB 2 _ rfl, ?_, HK.out.rise.sublist HSUB.out, fun x hx => HSP.out x (HSUB.out.subset hx), fun x hx => HK.out.keys x (HSUB.out.subset hx), by have := HST8.out; omega, HK.out.most, HK.out.gaps⟩
        rw [hlY]
        refine own_lower (own_kept HY7.out fun j hj => ?_) HBS0.out
        obtain ⟨cur, hcur⟩ := own_block HY7.out hj
        rw [HNB.out j _ _ hcur (by decide), hcur]⟩
      have HC8 : Aside0 (Chg w (w7.setCell ⟨b, 2, none⟩ (.slice A13 k c13)) (fun j => j = b ∨ w.heap.size ≤ j)) := ⟨(Chg.of_below HB7.out).set (p := ⟨b, 2, none⟩) (.inl rfl) _⟩
      have HO8 : Aside0 ((w7.setCell ⟨b, 2, none⟩ (.slice A13 k c13)).ownsRow w.heap.size 33 5 (.slice A7 m7 c7) m7 (cellsC K7)) := ⟨own_kept HO7.out fun j hj => by
        obtain ⟨cur, hcur⟩ := own_block HO7.out hj
        rw [HNB.out j _ _ hcur (by decide), hcur]⟩
      have BX8 : Aside0 ((w7.setCell ⟨b, 2, none⟩ (.slice A13 k c13)).heap[gx]? = some (.cells #[.int .i64 key, spanV fa lb, .int .i64 val] 53 (0, 0))) := ⟨HNB.out gx _ _ BX7.out (by decide)⟩
      clear hCB HNB
      go_upto_region 21 with fail
      clear y1 y2
      generalize w7.setCell ⟨b, 2, none⟩ (.slice A13 k c13) = w8 at HS8 HC8 HO8 BX8 ⊢
      have z0_ := (blk_cell BX8.out 0).trans (rfl : _ = some (.int .i64 key : Value))
      have z1_ := (blk_cell BX8.out 1).trans (rfl : _ = some (spanV fa lb : Value))
      have z2_ := (blk_cell BX8.out 2).trans (rfl : _ = some (.int .i64 val : Value))
      go_wp2_with fail
      refine (insert_ok base b room gap (.slice A13 k c13) Y ⟨key, fa, lb, val⟩ w8 HS8.out (Nat.le_trans HBS0.out HC8.out.size) HXS.out HKV.out HXF.out HST8.out).mono ?_
      rintro e w9 ⟨v9, rfl, hs9, hc9, hh9⟩
      rw [HL3.out] at hs9
      have HS9 := Aside0.mk hs9
      have HSB : Aside0 (∀ (j : Nat) (T : TypeId) (cs : Array Value), w8.heap[j]? = some (.cells cs T (0, 0)) → T ≠ 49 → T ≠ 53 → w9.heap[j]? = some (.cells cs T (0, 0))) := ⟨fun j T cs hj hT hT2 => (hc9.block j (blk_lt hj) (fun e => by
        rcases e with e | e
        · exact blk_types hj HS8.out.cell hT e
        · obtain ⟨cur2, hcur2⟩ := own_block HS8.out.row e
          exact blk_types hj hcur2 hT2 rfl)).trans hj⟩
      have BX9 : Aside0 (w9.heap[gx]? = some (.cells #[.int .i64 key, spanV fa lb, .int .i64 val] 53 (0, 0))) := ⟨(hc9.block gx (blk_lt BX8.out) (fun e => by
        rcases e with e | e
        · exact blk_types BX8.out HS8.out.cell (by decide) e
        · have := (HGY.out gx e.symm).2; omega)).trans BX8.out⟩
      have HO9 : Aside0 (w9.ownsRow w.heap.size 33 5 (.slice A7 m7 c7) m7 (cellsC K7)) := ⟨own_kept HO8.out fun j hj => by
        obtain ⟨cur, hcur⟩ := own_block HO8.out hj
        rw [HSB.out j _ _ hcur (by decide) (by decide), hcur]⟩
      have HC9 : Aside0 (Chg w w9 (fun j => j = b ∨ w.heap.size ≤ j)) := ⟨HC8.out.trans (hc9.mono fun j hj => by
        rcases hj with hj | hj
        · exact .inl hj
        · exact .inr (HGY.out j hj.symm).1)⟩
      have HH9 : Aside0 (Hat (.slice A n c) v9 w.heap.size) := ⟨by
        rcases hh9 with e | ⟨g, e, hg⟩
        · have hne : 0 < L2.length := by rw [← HL3.out, insS_len]; omega
          rcases hs9.row.2 with ⟨_, e2⟩ | ⟨g, cap, cur, rfl, _, _, _⟩
          · omega
          · exact .inr ⟨g, rfl, (HGY.out g e.symm).1⟩
        · exact .inr ⟨g, e, Nat.le_trans HC8.out.size hg⟩⟩
      clear hs9 hc9 hh9 HSB BX8 z0_ z1_ z2_
      have z0_ := (blk_cell BX9.out 0).trans (rfl : _ = some (.int .i64 key : Value))
      have z1_ := (blk_cell BX9.out 1).trans (rfl : _ = some (spanV fa lb : Value))
      have z2_ := (blk_cell BX9.out 2).trans (rfl : _ = some (.int .i64 val : Value))
      have hm7 : m7 ≤ 5000 := by
        have h1 := HK7.out
        have h2 : K7.length ≤ outs.length := by rw [← HKE.out]; exact List.length_filter_le _ _
        have h3 := HOL5.out
        omega
      go_wp2_with fail
      refine (change_ok ⟨key, fa, lb, val⟩ HXS.out _).mono ?_
      rintro e w10 ⟨rfl, hb_⟩
      unfold chgV
      replace HO9 := Aside0.mk (own_below HO9.out hb_)
      replace HS9 := Aside0.mk (HS9.out.below hb_)
      replace HC9 : Aside0 (Chg w w10 (fun j => j = b ∨ w.heap.size ≤ j)) := ⟨HC9.out.trans (Chg.of_below hb_)⟩
      have HBS : Aside0 (w.heap.size ≤ w10.heap.size) := ⟨HC9.out.size⟩
      clear hb_ z0_ z1_ z2_ BX9
      go_wp2_with (at_builtin; refine wpList_appC _ rfl _ _ rfl w.heap.size m7 (.slice A7 m7 c7) K7 (chgOf ⟨key, fa, lb, val⟩) rfl HO9.out rfl (by omega) ?_ ?_; exact HBS.out; intro v11 w11 ho_ hg_ hh_ hs_; obtain ⟨A11, c11, rfl⟩ := hs_)
      have HML : Aside0 (M2.length = m7 + 1) := ⟨by rw [← HM3.out, List.length_append, HK7.out]; rfl⟩
      have HP : Aside0 (PutPost base b room gap (.slice A n c) L2 M2 0 w (.returned (.tuple #[.slice A11 (m7 + 1) c11, .int .i64 0])) w11) := ⟨by
        refine ⟨v9, A11, c11, by rw [HML.out], by rw [HML.out, ← HM3.out]; exact ho_, ?_, ?_, HH9.out⟩
        · refine HS9.out.move fun j hj => hg_.block j (HS9.out.sb j hj).2 (fun e => ?_)
          obtain ⟨cur, hcur⟩ := own_block HO9.out e
          rcases hj with hj | hj
          · exact blk_types hcur HS9.out.cell (by decide) hj
          · obtain ⟨cur2, hcur2⟩ := own_block HS9.out.row hj
            exact blk_types hcur hcur2 (by decide) rfl
        · have hc : Chg w w11 (fun j => j = b ∨ w.heap.size ≤ j) := HC9.out.trans ((Chg.of_grown hg_).mono fun j hj => .inr (own_lt' HO9.out j hj.symm).1)
          exact ⟨hc.os, hc.tape, hc.output, hc.size, fun j hj hs => hc.block j hj (fun e => by rcases e with e | e; exact hs (.inl e); omega)⟩⟩
      rw [← HL2.out, ← HM2.out] at HP
      clear ho_ hg_ hh_ HS9 HC9 HO9
      go_wp2_with fail
      go_ret2
      exact HP.out
end Go.Proofs.Ytpjfmilokadchaa.Se
