/- The document's store, as the printed functions reckon it. -/
import Derived.Test.YtlnpnlacalppjaaKvDeed
namespace Go.Proofs.Ytlnpnlacalppjaa.Kv
open Go Go.RowKit Go.Proofs.YtlnpnlacalppjaaW.PrintWords Go.Proofs.YtlnpnlacalppjaaW.PrintLast Go.Proofs.YtlnpnlacalppjaaW.PrintMore Go.Proofs.Ytlnpnlacalppjaa.Rw Go.Proofs.Ytlnpnlacalppjaa.Ex
set_option linter.unusedVariables false
set_option linter.unusedSimpArgs false
theorem rd_chg {L : KL} {i : Nat} {p : Int × Int} (h : L[i]? = some p) : rd_T30 (L.map chgOf) (i : Int) = chgOf p := by
  unfold rd_T30
  rw [Int.toNat_natCast, List.getD_eq_getElem?_getD, List.getElem?_map, h]
  rfl
theorem drop_at {L : KL} {i : Nat} {p : Int × Int} (h : L[i]? = some p) : L.drop i = p :: L.drop (i + 1) := by
  obtain ⟨a, rfl⟩ := List.getElem?_eq_some_iff.1 h
  exact List.drop_eq_getElem_cons a
theorem at_lt {L : KL} {i : Nat} (h : i < L.length) : ∃ p, L[i]? = some p := ⟨_, List.getElem?_eq_getElem h⟩
theorem w1 (i : Nat) (h : i ≤ 1099511627776) : wrap64 ((i : Int) + 1) = ((i + 1 : Nat) : Int) := by unfold wrap64; omega
theorem get_l0 (L : KL) (room key : Int) (hl : L.length ≤ 1099511627776) : ∀ (d k i : Nat), i + d = L.length → d < k → tidemillref12_Get.l0 k key i room (L.map chgOf) = some ((get (L.drop i) key).getD 0, (get (L.drop i) key).isSome) := by
  intro d
  induction d with
  | zero =>
    intro k i hi hk
    obtain ⟨k, rfl⟩ : ∃ m, k = m + 1 := ⟨k - 1, by omega⟩
    simp only [tidemillref12_Get.l0]
    rw [if_neg (by rw [chg_len]; omega), List.drop_of_length_le (by omega)]
    rfl
  | succ d ih =>
    intro k i hi hk
    obtain ⟨k, rfl⟩ : ∃ m, k = m + 1 := ⟨k - 1, by omega⟩
    obtain ⟨p, hp⟩ := at_lt (show i < L.length by omega)
    simp only [tidemillref12_Get.l0]
    rw [if_pos (by rw [chg_len]; omega), if_pos (by omega), rd_chg hp, drop_at hp, get, w1 i (by omega)]
    by_cases e : p.1 = key
    · rw [if_pos e, if_pos (show (chgOf p).f0 = key from e)]
      rfl
    · rw [if_neg e, if_neg (show ¬ (chgOf p).f0 = key from e)]
      exact ih k (i + 1) (by omega) (by omega)
theorem get_ev (L : KL) (room key : Int) (hl : L.length ≤ 1024) : Ev (fun k => tidemillref12_Get.f k room (L.map chgOf) key) ((get L key).getD 0, (get L key).isSome) :=
  ⟨L.length + 1, fun k hk => by
    have := get_l0 L room key (by omega) L.length k 0 (by omega) (by omega)
    rw [List.drop_zero] at this
    exact this⟩
theorem without_l0 (L : KL) (key : Int) (hl : L.length ≤ 1024) : ∀ (d k i : Nat) (acc : List S30), i + d = L.length → d < k → acc.length ≤ i → tidemillref12_without.l0 k (L.map chgOf) key acc i = some (acc ++ (without (L.drop i) key).map chgOf) := by
  intro d
  induction d with
  | zero =>
    intro k i acc hi hk ha
    obtain ⟨k, rfl⟩ : ∃ m, k = m + 1 := ⟨k - 1, by omega⟩
    simp only [tidemillref12_without.l0]
    rw [if_neg (by rw [chg_len]; omega), List.drop_of_length_le (by omega)]
    simp [without]
  | succ d ih =>
    intro k i acc hi hk ha
    obtain ⟨k, rfl⟩ : ∃ m, k = m + 1 := ⟨k - 1, by omega⟩
    obtain ⟨p, hp⟩ := at_lt (show i < L.length by omega)
    simp only [tidemillref12_without.l0]
    rw [if_pos (by rw [chg_len]; omega), if_pos (by omega), rd_chg hp, drop_at hp, w1 i (by omega)]
    unfold without
    rw [List.filter_cons]
    by_cases e : p.1 = key
    · rw [if_pos (show (chgOf p).f0 = key from e), if_neg (by simpa using e)]
      exact ih k (i + 1) acc (by omega) (by omega) (by omega)
    · rw [if_neg (show ¬ (chgOf p).f0 = key from e), if_pos (show acc.length < 3518437208883 by omega), if_pos (show decide (p.1 ≠ key) = true by simpa using e), ih k (i + 1) _ (by omega) (by omega) (by rw [List.length_append]; simp; omega), List.map_cons, List.append_assoc]
      rfl
theorem without_ev (L : KL) (key : Int) (hl : L.length ≤ 1024) : Ev (fun k => tidemillref12_without.f k (L.map chgOf) key) ((without L key).map chgOf) :=
  ⟨L.length + 1, fun k hk => by
    have := without_l0 L key hl L.length k 0 [] (by omega) (by omega) (Nat.le_refl _)
    rw [List.drop_zero, List.nil_append] at this
    exact this⟩
section
variable (N : KL) (M : List S30) (room key val : Int) (hl : N.length ≤ 1024)
include hl
theorem put_l0T : ∀ (d k i : Nat) (acc : List S30), i + d = N.length → d < k → acc.length ≤ i + 1 → tidemillref12_Put.l0 k key (N.map chgOf) acc true i room M key 0 0 val false = some (room, acc ++ (N.drop i).map chgOf, key, 0, 0, val, false, 0) := by
  intro d
  induction d with
  | zero =>
    intro k i acc hi hk ha
    obtain ⟨k, rfl⟩ : ∃ m, k = m + 1 := ⟨k - 1, by omega⟩
    simp only [tidemillref12_Put.l0]
    rw [if_neg (by rw [chg_len]; omega), if_pos trivial, List.drop_of_length_le (by omega)]
    simp
  | succ d ih =>
    intro k i acc hi hk ha
    obtain ⟨k, rfl⟩ : ∃ m, k = m + 1 := ⟨k - 1, by omega⟩
    obtain ⟨p, hp⟩ := at_lt (show i < N.length by omega)
    simp only [tidemillref12_Put.l0]
    rw [if_pos (by rw [chg_len]; omega), if_pos trivial, if_pos (by omega), if_pos (by omega), rd_chg hp, drop_at hp, w1 i (by omega), ih k (i + 1) _ (by omega) (by omega) (by rw [List.length_append]; simp; omega), List.map_cons, List.append_assoc]
    rfl
theorem put_l0F : ∀ (d k i : Nat) (acc : List S30), i + d = N.length → d < k → acc.length ≤ i → tidemillref12_Put.l0 k key (N.map chgOf) acc false i room M key 0 0 val false = some (room, acc ++ (ins (N.drop i) key val).map chgOf, key, 0, 0, val, false, 0) := by
  intro d
  induction d with
  | zero =>
    intro k i acc hi hk ha
    obtain ⟨k, rfl⟩ : ∃ m, k = m + 1 := ⟨k - 1, by omega⟩
    simp only [tidemillref12_Put.l0]
    rw [if_neg (by rw [chg_len]; omega), if_neg (by simp), if_pos (by omega), List.drop_of_length_le (by omega)]
    rfl
  | succ d ih =>
    intro k i acc hi hk ha
    obtain ⟨k, rfl⟩ : ∃ m, k = m + 1 := ⟨k - 1, by omega⟩
    obtain ⟨p, hp⟩ := at_lt (show i < N.length by omega)
    simp only [tidemillref12_Put.l0]
    rw [if_pos (by rw [chg_len]; omega), if_neg (by simp), if_pos (by omega), rd_chg hp, drop_at hp, ins, w1 i (by omega)]
    by_cases e : p.1 > key
    · rw [if_pos (show (chgOf p).f0 > key from e), if_pos e, if_pos (by omega)]
      simp only [Option.bind_some]
      rw [if_pos (by rw [List.length_append]; simp; omega), put_l0T N M room key val hl d k (i + 1) _ (by omega) (by omega) (by simp; omega)]
      simp [chgOf]
    · rw [if_neg (show ¬ (chgOf p).f0 > key from e), if_neg e, if_pos (by omega), ih k (i + 1) _ (by omega) (by omega) (by rw [List.length_append]; simp; omega)]
      simp [chgOf]
end
theorem putj_ev (L : KL) (room key val : Int) (hr : Rise L) (hl : L.length ≤ 1024) : Ev (fun k => tidemillref12_Put.j0 k key val false room (L.map chgOf)) (room, (put L key val).map chgOf, key, 0, 0, val, false, 0) := by
  refine Ev.step (f := fun k => (tidemillref12_without.f k (L.map chgOf) key).bind fun t => tidemillref12_Put.l0 k key t ([] : List S30) false 0 room (L.map chgOf) key 0 0 val false) (fun k => by simp only [tidemillref12_Put.j0]; rw [if_neg (by simp)]) ?_
  refine Ev.bind (f := fun k t => tidemillref12_Put.l0 k key t ([] : List S30) false 0 room (L.map chgOf) key 0 0 val false) (without_ev L key hl) ?_
  have hw : (without L key).length ≤ 1024 := Nat.le_trans (List.length_filter_le _ _) hl
  refine ⟨(without L key).length + 1, fun k hk => ?_⟩
  have := put_l0F (without L key) (L.map chgOf) room key val hw (without L key).length k 0 [] (by omega) (by omega) (Nat.le_refl _)
  rw [List.drop_zero, List.nil_append, ins_without hr] at this
  exact this
theorem put_ev (L : KL) (room key val : Int) (hr : Rise L) (hl : L.length ≤ 1024) : Ev (fun k => tidemillref12_Put.f k room (L.map chgOf) key val)
    (room, (putL room L key val).map chgOf, ex30 (mayPut room L key) key 0, 0, 0, ex30 (mayPut room L key) val 0, false, ex30 (mayPut room L key) 0 3) := by
  unfold tidemillref12_Put.f
  refine Ev.bind (f := fun k bt => if bt.2 = true then (tidemillref12_Put.j0 k key val false room (L.map chgOf)) else (tidemillref12_Put.j0 k key val (decide (((L.map chgOf).length : Int) ≥ room)) room (L.map chgOf))) (get_ev L room key hl) ?_
  unfold putL mayPut ex30
  cases hg : get L key with
  | some x =>
    simp only [Option.isSome_some, Bool.true_or, if_true]
    exact putj_ev L room key val hr hl
  | none =>
    simp only [Option.isSome_none, Bool.false_or]
    by_cases h : (L.length : Int) < room
    · have h2 : decide (((L.map chgOf).length : Int) ≥ room) = false := by rw [chg_len]; simp; omega
      rw [h2, decide_eq_true h]
      simp only [if_true]
      exact Ev.congr (fun k => by rw [if_neg (by simp)]) (putj_ev L room key val hr hl)
    · have h2 : decide (((L.map chgOf).length : Int) ≥ room) = true := by rw [chg_len]; simp; omega
      rw [h2, decide_eq_false h]
      refine Ev.step (f := fun _ => some (room, L.map chgOf, 0, 0, 0, 0, false, 3)) (fun k => ?_) (Ev.now _)
      rw [if_neg (by simp)]
      simp [tidemillref12_Put.j0]
theorem del_ev (L : KL) (room key : Int) (hr : Rise L) (hl : L.length ≤ 1024) : Ev (fun k => tidemillref12_Del.f k room (L.map chgOf) key)
    (room, (del L key).map chgOf, ex30 (get L key).isSome key 0, 0, 0, 0, (get L key).isSome, ex30 (get L key).isSome 0 6) := by
  unfold tidemillref12_Del.f
  refine Ev.bind (f := fun k bt => if bt.2 = true then ((tidemillref12_without.f k (L.map chgOf) key).bind fun t148 => (some (room, t148, key, (0 : Int), (0 : Int), (0 : Int), true, (0 : Int)))) else (some (room, L.map chgOf, 0, 0, 0, 0, false, 6))) (get_ev L room key hl) ?_
  unfold ex30
  cases hg : get L key with
  | some x =>
    simp only [Option.isSome_some, if_true]
    refine Ev.bind (f := fun k t148 => (some (room, t148, key, (0 : Int), (0 : Int), (0 : Int), true, (0 : Int)))) (without_ev L key hl) ?_
    rw [without_eq hr]
    exact Ev.now _
  | none =>
    rw [del_none hg]
    exact Ev.congr (fun k => by simp) (Ev.now _)
theorem do_ev (L : KL) (room ck cf ct cv : Int) (cd : Bool) (hr : Rise L) (hl : L.length ≤ 1024) : Ev (fun k => tidemillref12_Do.f k room (L.map chgOf) ck cf ct cv cd) (room, (doL room L ck cf ct cv cd).map chgOf, doE room L ck cf ct cv cd) := by
  have bad : Ev (fun k => tidemillref12_Do.j0 k true room (L.map chgOf) ck cf ct cv cd) (room, L.map chgOf, 5) := Ev.step (f := fun _ => some (room, L.map chgOf, 5)) (fun k => by simp [tidemillref12_Do.j0]) (Ev.now _)
  unfold doL doE doBad
  by_cases h1 : cf = 0
  · by_cases h2 : ct = 0
    · subst h1
      subst h2
      cases cd with
      | true =>
        by_cases h3 : cv = 0
        · subst h3
          refine Ev.congr (f := fun k => tidemillref12_Do.j0 k false room (L.map chgOf) ck 0 0 0 true) (fun k => by unfold tidemillref12_Do.f; simp) ?_
          refine Ev.step (f := fun k => (tidemillref12_Del.f k room (L.map chgOf) ck).bind fun bt154 => (some (bt154.1, bt154.2.1, bt154.2.2.2.2.2.2.2))) (fun k => by simp [tidemillref12_Do.j0]) ?_
          refine Ev.bind (f := fun k (bt154 : Int × List S30 × Int × Int × Int × Int × Bool × Int) => (some (bt154.1, bt154.2.1, bt154.2.2.2.2.2.2.2))) (del_ev L room ck hr hl) ?_
          exact Ev.now _
        · have h3b : (cv == 0) = false := by simpa using h3
          refine Ev.congr (f := fun k => tidemillref12_Do.j0 k true room (L.map chgOf) ck 0 0 cv true) (fun k => by unfold tidemillref12_Do.f; simp only [if_true]; rw [show (cv != 0) = true by simpa using h3]) ?_
          rw [h3b]
          exact bad
      | false =>
        refine Ev.congr (f := fun k => tidemillref12_Do.j0 k false room (L.map chgOf) ck 0 0 cv false) (fun k => by unfold tidemillref12_Do.f; simp) ?_
        refine Ev.step (f := fun k => (tidemillref12_Put.f k room (L.map chgOf) ck cv).bind fun bt166 => (some (bt166.1, bt166.2.1, bt166.2.2.2.2.2.2.2))) (fun k => by simp [tidemillref12_Do.j0]) ?_
        refine Ev.bind (f := fun k (bt166 : Int × List S30 × Int × Int × Int × Int × Bool × Int) => (some (bt166.1, bt166.2.1, bt166.2.2.2.2.2.2.2))) (put_ev L room ck cv hr hl) ?_
        exact Ev.now _
    · have h2b : (ct == 0) = false := by simpa using h2
      refine Ev.congr (f := fun k => tidemillref12_Do.j0 k true room (L.map chgOf) ck cf ct cv cd) (fun k => by unfold tidemillref12_Do.f; rw [if_pos h1, if_neg h2]) ?_
      rw [h2b]
      simpa using bad
  · have h1b : (cf == 0) = false := by simpa using h1
    refine Ev.congr (f := fun k => tidemillref12_Do.j0 k true room (L.map chgOf) ck cf ct cv cd) (fun k => by unfold tidemillref12_Do.f; rw [if_neg h1]) ?_
    rw [h1b]
    simpa using bad
end Go.Proofs.Ytlnpnlacalppjaa.Kv
