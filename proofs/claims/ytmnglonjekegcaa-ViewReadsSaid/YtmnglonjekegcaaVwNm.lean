/- Texts of this claim, joined. -/
import Derived.Test.YtmnglonjekegcaaVwGr
import Derived.Test.YtmnglonjekegcaaRp8
import Derived.Test.YtmnglonjekegcaaVwEn
import Derived.Test.YtmnglonjekegcaaRfMay
namespace Go.Proofs.Ytmnglonjekegcaa.Vw
open Go Go.RowKit Go.Proofs.Ytmnglonjekegcaa.Rp Go.Proofs.YtmnglonjekegcaaW.PrintWords Go.Proofs.YtmnglonjekegcaaW.PrintLast Go.Proofs.YtmnglonjekegcaaW.PrintMore
set_option linter.unusedVariables false
set_option linter.unusedSimpArgs false
def ins (n : Int) : List Int → List Int
  | [] => [n]
  | y :: r => if y > n then n :: y :: r else y :: ins n r
def addI (l : List Int) (n : Int) : List Int := if n ∈ l then l else ins n l
def goA (l0 : List Int) (n : Int) : List Int → List Int → Bool → List Int
  | [], out, done => if done = true then out else out ++ [n]
  | y :: r, out, done => if y = n then l0 else if done = true then goA l0 n r (out ++ [y]) done else if y > n then goA l0 n r ((out ++ [n]) ++ [y]) true else goA l0 n r (out ++ [y]) done
theorem rd_drop {l : List Int} {j : Nat} (h : j < l.length) : l.drop j = rd l (j : Int) :: l.drop (j + 1) := by
  unfold rd
  rw [Int.toNat_natCast, List.drop_eq_getElem_cons h, List.getD_eq_getElem?_getD, List.getElem?_eq_getElem h]
  rfl
theorem add_l0 (l0 : List Int) (n : Int) (hl : l0.length ≤ 100000) : ∀ (d j k : Nat) (out : List Int) (done : Bool), j + d = l0.length → d < k → out.length ≤ 2 * j + 1 → tidemillref11_add.l0 k l0 n out done (j : Int) = some (goA l0 n (l0.drop j) out done) := by
  intro d
  induction d with
  | zero =>
    intro j k out done hj hk ho
    obtain ⟨k, rfl⟩ : ∃ m, k = m + 1 := ⟨k - 1, by omega⟩
    unfold tidemillref11_add.l0
    rw [if_neg (by omega), List.drop_of_length_le (by omega), goA]
    split
    · rfl
    · rw [if_pos (by omega)]
  | succ d ih =>
    intro j k out done hj hk ho
    obtain ⟨k, rfl⟩ : ∃ m, k = m + 1 := ⟨k - 1, by omega⟩
    have hw : wrap64 ((j : Int) + 1) = ((j + 1 : Nat) : Int) := by unfold wrap64; omega
    unfold tidemillref11_add.l0
    rw [if_pos (by omega), if_pos (by omega), rd_drop (by omega), goA, hw]
    by_cases h1 : rd l0 (j : Int) = n
    · rw [if_pos h1, if_pos h1]
    · rw [if_neg h1, if_neg h1]
      by_cases hd : done = true
      · rw [if_pos hd, if_pos hd, if_pos (by omega)]
        exact ih (j + 1) k _ _ (by omega) (by omega) (by rw [List.length_append]; simp; omega)
      · rw [if_neg hd, if_neg hd]
        by_cases h2 : rd l0 (j : Int) > n
        · rw [if_pos h2, if_pos h2, if_pos (by omega), Option.bind_some, if_pos (by rw [List.length_append]; simp; omega)]
          exact ih (j + 1) k _ _ (by omega) (by omega) (by rw [List.length_append, List.length_append]; simp; omega)
        · rw [if_neg h2, if_neg h2, if_pos (by omega)]
          exact ih (j + 1) k _ _ (by omega) (by omega) (by rw [List.length_append]; simp; omega)
theorem goA_in (l0 : List Int) (n : Int) : ∀ (r out : List Int) (done : Bool), n ∈ r → goA l0 n r out done = l0 := by
  intro r
  induction r with
  | nil => intro _ _ h; cases h
  | cons y r ih =>
    intro out done h
    rw [goA]
    by_cases hy : y = n
    · rw [if_pos hy]
    · have hr : n ∈ r := (List.mem_cons.1 h).resolve_left fun e => hy e.symm
      rw [if_neg hy]
      simp only [ih _ _ hr]
      split
      · rfl
      · split <;> rfl
theorem goA_done (l0 : List Int) (n : Int) : ∀ (r out : List Int), n ∉ r → goA l0 n r out true = out ++ r := by
  intro r
  induction r with
  | nil => intro out _; rw [goA, if_pos rfl, List.append_nil]
  | cons y r ih =>
    intro out h
    rw [goA, if_neg (fun e => h (by simp [e])), if_pos rfl, ih _ (fun e => h (by simp [e])), List.append_assoc]
    rfl
theorem goA_out (l0 : List Int) (n : Int) : ∀ (r out : List Int), n ∉ r → goA l0 n r out false = out ++ ins n r := by
  intro r
  induction r with
  | nil => intro out _; rw [goA, if_neg (by simp)]; rfl
  | cons y r ih =>
    intro out h
    have hr : n ∉ r := fun e => h (by simp [e])
    rw [goA, if_neg (fun e => h (by simp [e])), if_neg (by simp), ins]
    by_cases hy : y > n
    · rw [if_pos hy, if_pos hy, goA_done _ _ _ _ hr]
      simp
    · rw [if_neg hy, if_neg hy, ih _ hr, List.append_assoc]
      rfl
theorem add_f (l0 : List Int) (n : Int) (hl : l0.length ≤ 100000) : tidemillref11_add.f (l0.length + 1) l0 n = some (addI l0 n) := by
  unfold tidemillref11_add.f
  have h := add_l0 l0 n hl l0.length 0 (l0.length + 1) [] false (by omega) (by omega) (by simp)
  rw [List.drop_zero] at h
  have h0 : ((0 : Nat) : Int) = 0 := rfl
  rw [h0] at h
  rw [h]
  unfold addI
  split
  · rename_i hm; rw [goA_in _ _ _ _ _ hm]
  · rename_i hm; rw [goA_out _ _ _ _ hm]; rfl
def Rising (l : List Int) : Prop := l.Pairwise (· < ·)
theorem ins_mem (n : Int) (l : List Int) (k : Int) : k ∈ ins n l ↔ k = n ∨ k ∈ l := by
  induction l with
  | nil => simp [ins]
  | cons y r ih =>
    rw [ins]
    split
    · simp
    · rw [List.mem_cons, ih, List.mem_cons]
      constructor
      · rintro (h | h | h)
        · exact .inr (.inl h)
        · exact .inl h
        · exact .inr (.inr h)
      · rintro (h | h | h)
        · exact .inr (.inl h)
        · exact .inl h
        · exact .inr (.inr h)
theorem ins_rising {n : Int} {l : List Int} (h : Rising l) (hn : n ∉ l) : Rising (ins n l) := by
  induction l with
  | nil => exact List.pairwise_singleton _ _
  | cons y r ih =>
    obtain ⟨h1, h2⟩ := List.pairwise_cons.1 h
    rw [ins]
    split
    · rename_i hy
      refine List.pairwise_cons.2 ⟨fun a ha => ?_, h⟩
      rcases List.mem_cons.1 ha with rfl | ha
      · exact hy
      · have := h1 a ha; omega
    · rename_i hy
      refine List.pairwise_cons.2 ⟨fun a ha => ?_, ih h2 fun e => hn (by simp [e])⟩
      rcases (ins_mem n r a).1 ha with rfl | ha
      · have : a ≠ y := fun e => hn (by simp [e])
        omega
      · exact h1 a ha
theorem addI_mem (l : List Int) (n k : Int) : k ∈ addI l n ↔ k = n ∨ k ∈ l := by
  unfold addI
  split
  · rename_i h
    constructor
    · exact .inr
    · rintro (rfl | h2)
      · exact h
      · exact h2
  · exact ins_mem n l k
theorem addI_rising {l : List Int} (h : Rising l) (n : Int) : Rising (addI l n) := by
  unfold addI
  split
  · exact h
  · rename_i hn; exact ins_rising h hn
theorem addI_len (l : List Int) (n : Int) : (addI l n).length ≤ l.length + 1 := by
  have hi : ∀ l : List Int, (ins n l).length = l.length + 1 := fun l => by
    induction l with
    | nil => rfl
    | cons y r ih => rw [ins]; split <;> simp [ih]
  unfold addI
  split
  · omega
  · rw [hi]; exact Nat.le_refl _
theorem rising_sorted {l m : List Int} (hl : Rising l) (hm : m.Nodup) (h : ∀ k, k ∈ l ↔ k ∈ m) : l = sortI m := by
  have nd : l.Nodup := hl.imp fun h e => by rw [e] at h; exact absurd h (Int.lt_irrefl _)
  have hp : l.Perm m := (List.perm_ext_iff_of_nodup nd hm).2 h
  unfold sortI
  refine List.Perm.eq_of_pairwise (le := fun a b => (decide (a ≤ b)) = true) ?_ ?_ ?_ (hp.trans (List.mergeSort_perm m _).symm)
  · intro a b _ _ h1 h2; simp at h1 h2; omega
  · exact hl.imp fun h => by simpa using Int.le_of_lt h
  · exact List.pairwise_mergeSort (fun a b c h1 h2 => by simp at *; omega) (fun a b => by simp; omega) m
def namesV (l : List S47) : List Int := ((l.filter tk).map (·.f1)).foldl addI []
theorem namesV_snoc (l : List S47) (x : S47) : namesV (l ++ [x]) = if tk x = true then addI (namesV l) x.f1 else namesV l := by
  unfold namesV
  rw [List.filter_append]
  by_cases h : tk x = true
  · rw [if_pos h, List.filter_cons_of_pos h, List.map_append, List.foldl_append]
    rfl
  · rw [if_neg h, List.filter_cons_of_neg h, List.filter_nil, List.append_nil]
theorem fold_addI (m : List Int) : ∀ a : List Int, (Rising a → Rising (m.foldl addI a)) ∧ (∀ k, k ∈ m.foldl addI a ↔ k ∈ a ∨ k ∈ m) ∧ (m.foldl addI a).length ≤ a.length + m.length := by
  induction m with
  | nil => intro a; exact ⟨id, fun k => by simp, by simp⟩
  | cons n m ih =>
    intro a
    obtain ⟨h1, h2, h3⟩ := ih (addI a n)
    refine ⟨fun h => h1 (addI_rising h n), fun k => ?_, ?_⟩
    · rw [List.foldl_cons, h2, addI_mem, List.mem_cons]
      constructor
      · rintro ((h | h) | h)
        · exact .inr (.inl h)
        · exact .inl h
        · exact .inr (.inr h)
      · rintro (h | h | h)
        · exact .inl (.inr h)
        · exact .inl (.inl h)
        · exact .inr h
    · rw [List.foldl_cons, List.length_cons]
      have := addI_len a n
      omega
theorem namesV_len (l : List S47) : (namesV l).length ≤ l.length := by
  have h := (fold_addI ((l.filter tk).map (·.f1)) []).2.2
  rw [List.length_map] at h
  have := List.length_filter_le tk l
  unfold namesV
  simp at h
  omega
/-- The names are the tasks that are told, rising. -/
theorem namesV_keys (l : List S47) : namesV l = sortI ((throughV l).T.map (·.t.f0)) := by
  obtain ⟨h1, h2, _⟩ := fold_addI ((l.filter tk).map (·.f1)) []
  refine rising_sorted (h1 List.Pairwise.nil) (KInv.through l).ndT fun k => ?_
  show k ∈ List.foldl addI [] _ ↔ _
  rw [h2, through_split]
  show _ ↔ k ∈ (goT [] 0 l).map _
  rw [keys_go]
  simp only [List.mem_map, List.mem_filter, List.not_mem_nil, false_or, List.map_nil]
  constructor
  · rintro ⟨x, ⟨h3, h4⟩, rfl⟩; exact ⟨x, h3, h4, rfl⟩
  · rintro ⟨x, h3, h4, rfl⟩; exact ⟨x, ⟨h3, h4⟩, rfl⟩
end Go.Proofs.Ytmnglonjekegcaa.Vw
namespace Go.Proofs.Ytmnglonjekegcaa.Vw
open Go Go.RowKit Go.Maps Go.Proofs.Ytmnglonjekegcaa.Mk Go.Proofs.Ytmnglonjekegcaa.Rp Go.Proofs.YtmnglonjekegcaaW.PrintWords Go.Proofs.YtmnglonjekegcaaW.PrintLast Go.Proofs.YtmnglonjekegcaaW.PrintMore Go.Proofs.Ytmnglonjekegcaa.Rw Go.Proofs.Ytmnglonjekegcaa.Ow Go.Proofs.Ytmnglonjekegcaa.Mono
set_option linter.unusedVariables false
set_option linter.unusedSimpArgs false
set_option maxRecDepth 100000
def NamP (w : World) (l : List S47) (e : Ending) (w' : World) : Prop := ∃ v, e = .returned v ∧ Kd.R (Kd.int .i64) 3 w' w.heap.size (fun _ => True) v (namesV l) ∧ Below w.heap.size w w'
set_option maxHeartbeats 4000000 in
theorem names_ok (A : Option Addr) (n c : Nat) (l : List S47) (w : World) (hC : Kd.C k47 w A n l) (hn : n ≤ 300) (hnc : n ≤ c) : Calls Try.prog 24 #[.slice A n c] w (NamP w l) := by
  have HC := Aside0.mk hC
  have HLn := Aside0.mk hC.1
  clear hC
  go_enter Try.func24, Try.ntmps24
  go_wp2_with fail
  go_loopw [3, 4] (fun va vb wr => ∃ (i : Nat) (v3 : Value), i ≤ n ∧ v3 = va ∧ vb = .int .i64 (i : Int) ∧ Aside0 (Kd.R (Kd.int .i64) 3 wr w.heap.size (fun _ => True) v3 (namesV (l.take i))) ∧ Aside0 (Below w.heap.size w wr)) (fun _ v4 _ => n - (intOf v4).toNat)
  case atStart => exact ⟨0, _, Nat.zero_le _, rfl, rfl, ⟨Kd.R_nil _ _ _ _ _⟩, ⟨Below.refl _ _⟩⟩
  case round =>
    obtain ⟨i, v3, hi, rfl, rfl, HR, HB⟩ := hrel
    by_cases hlt : i < n
    · have h1 : decide ((i : Int) < (n : Int)) = true := by simp; omega
      have h1b : decide (i < n) = true := by simp; omega
      obtain ⟨x, hx⟩ : ∃ x, l[i]? = some x := ⟨_, List.getElem?_eq_getElem (by rw [HLn.out]; exact hlt)⟩
      obtain ⟨ad, A9, c9, A10, c10, rfl, hcells⟩ := at_T47 HC.out (i : Int) (Int.natCast_nonneg _) (Int.ofNat_lt.2 hlt)
      rw [rd_eq hx] at hcells
      have HTN : Aside0 (namesV (l.take (i + 1)) = if tk x = true then addI (namesV (l.take i)) x.f1 else namesV (l.take i)) := ⟨by
        obtain ⟨a, e⟩ := List.getElem?_eq_some_iff.1 hx
        rw [List.take_succ_eq_append_getElem a, e, namesV_snoc]⟩
      have HNL : Aside0 ((namesV (l.take i)).length ≤ 300) := ⟨Nat.le_trans (namesV_len _) (by rw [List.length_take]; omega)⟩
      clear hx
      obtain ⟨x0_, x1_, x2_, x3_, x4_, x5_, x6_, x7_, x8_, x9_, x10_, l9, k9, l10, k10⟩ := hcells
      rw [Int.toNat_natCast] at x0_ x1_ x2_ x3_ x4_ x5_ x6_ x7_ x8_ x9_ x10_
      have HX := Aside0.mk (And.intro x0_ x1_)
      replace x0_ := pw_cell_below HB.out x0_
      replace x1_ := pw_cell_below HB.out x1_
      replace x2_ := pw_cell_below HB.out x2_
      replace x3_ := pw_cell_below HB.out x3_
      replace x4_ := pw_cell_below HB.out x4_
      replace x5_ := pw_cell_below HB.out x5_
      replace x6_ := pw_cell_below HB.out x6_
      replace x7_ := pw_cell_below HB.out x7_
      replace x8_ := pw_cell_below HB.out x8_
      replace x9_ := pw_cell_below HB.out x9_
      replace x10_ := pw_cell_below HB.out x10_
      have HK := Aside0.mk (And.intro (And.intro l9 k9) (And.intro l10 k10))
      clear l9 k9 l10 k10
      obtain ⟨q, HQ⟩ : ∃ q, Aside0 (tk x = q) := ⟨_, ⟨rfl⟩⟩
      rw [HQ.out] at HTN
      go_upto_region 5 with fail
      go_cut [31] (fun vq wc => vq = .bool q ∧ Aside0 (Below wr.heap.size wr wc))
      case first =>
        go_wp2_with fail
        refine (refMay_ok x A9 A10 c9 c10 wr (Kd.C_below HK.out.1.2 HB.out) HK.out.1.1 (Kd.C_below HK.out.2.2 HB.out) HK.out.2.1).mono ?_
        rintro e_ wm ⟨rfl, hb_⟩
        obtain ⟨mm, HM⟩ : ∃ m, Aside0 (mayE x = m) := ⟨_, ⟨rfl⟩⟩
        rw [HM.out]
        have HBM := Aside0.mk hb_
        clear x0_ x1_ x2_ x3_ x4_ x5_ x6_ x7_ x8_ x9_ x10_
        have x0_ := pw_cell_below (below_on HB.out HB.out.size hb_) HX.out.1
        clear hb_
        have HQQ : Aside0 ((mm && (decide (2 ≤ x.f0) && decide (x.f0 ≤ 5))) = q) := ⟨by rw [← HQ.out, ← HM.out]; rfl⟩
        cases mm with
        | false =>
          go_wp2_with fail
          go_meet
          case rel => exact ⟨by rw [← HQQ.out]; rfl, HBM⟩
        | true =>
          by_cases h2 : 2 ≤ x.f0
          · have d2_ : decide (x.f0 ≥ 2) = true := by simpa using h2
            have d2b_ : decide (2 ≤ x.f0) = true := by simpa using h2
            obtain ⟨b5, hb5⟩ : ∃ b, decide (x.f0 ≤ 5) = b := ⟨_, rfl⟩
            have HE : Aside0 (q = b5) := ⟨by rw [← HQQ.out, hb5, decide_eq_true h2]; rfl⟩
            clear h2
            go_wp2_with fail
            go_meet
            case rel => exact ⟨by rw [HE.out], HBM⟩
          · have d2_ : decide (x.f0 ≥ 2) = false := by simpa using h2
            have d2b_ : decide (2 ≤ x.f0) = false := by simpa using h2
            have HE : Aside0 (q = false) := ⟨by rw [← HQQ.out, decide_eq_false h2]; rfl⟩
            clear h2
            go_wp2_with fail
            go_meet
            case rel => exact ⟨by rw [HE.out], HBM⟩
      case rest =>
      obtain ⟨rfl, HBM⟩ := hcut
      rename World => wy
      clear x0_ x1_ x2_ x3_ x4_ x5_ x6_ x7_ x8_ x9_ x10_
      replace HR := Aside0.mk (Kd.R_below HR.out HBM.out)
      replace HB := Aside0.mk (below_on HB.out HB.out.size HBM.out)
      have x1_ := pw_cell_below HB.out HX.out.2
      cases q with
      | false =>
        go_wp2_with fail
        go_roundw
        case rel => exact ⟨i + 1, _, by omega, rfl, by go_num, ⟨by rw [HTN.out, if_neg (by simp)]; exact HR.out⟩, HB⟩
        case measure => simp [intOf]; omega
      | true =>
        go_wp2_with fail
        refine (tidemillref11_add.calls ((namesV (l.take i)).length + 1) (fun _ => True) v3 (namesV (l.take i)) x.f1 (addI (namesV (l.take i)) x.f1) w wy HB.out HR.out (add_f _ _ (by have := HNL.out; omega))).mono ?_
        rintro e_ wz ⟨v0_, rfl, hR_, hb_, _⟩
        have HR2 := Aside0.mk (Kd.R_mono hR_ fun _ _ => trivial)
        have HB2 := Aside0.mk hb_
        clear hR_ hb_ x1_
        go_wp2_with fail
        go_roundw
        case rel => exact ⟨i + 1, _, by omega, rfl, by go_num, ⟨by rw [HTN.out, if_pos (by trivial)]; exact HR2.out⟩, HB2⟩
        case measure => simp [intOf]; omega
    · obtain rfl : n = i := by omega
      have h1b : decide (n < n) = false := by simp
      rw [List.take_of_length_le (by rw [HLn.out]; exact Nat.le_refl _)] at HR
      go_wp2_with fail
      go_ret
      exact ⟨v3, rfl, HR.out, HB.out⟩
end Go.Proofs.Ytmnglonjekegcaa.Vw
