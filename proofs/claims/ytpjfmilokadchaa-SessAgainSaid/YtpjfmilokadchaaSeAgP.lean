/- (c14) Plain: what changes tell, done one behind the other. -/
import Derived.Test.YtpjfmilokadchaaSeDeed
namespace Go.Proofs.Ytpjfmilokadchaa.Se
open Go Go.RowKit Go.Proofs.Ytpjfmilokadchaa.Ex
set_option linter.unusedVariables false
set_option linter.unusedSimpArgs false
def doAll (L : List Ses) (M : List S33) : List Ses := M.foldl doC L
def GoodC (room : Int) (L : List Ses) (M : List S33) : Prop := ∀ (k : Nat) (c : S33), M[k]? = some c → OkC room (doAll L (M.take k)) c
theorem GoodC.nil (room : Int) (L : List Ses) : GoodC room L [] := fun k c h => by simp at h
theorem GoodC.cons {room : Int} {L : List Ses} {c : S33} {M : List S33} (h : OkC room L c) (k : GoodC room (doC L c) M) : GoodC room L (c :: M) := by
  intro j d hd
  cases j with
  | zero => simp at hd; subst hd; exact h
  | succ j =>
    have := k j d (by simpa using hd)
    rw [List.take_succ_cons]
    exact this
theorem doAll_append (L : List Ses) (M N : List S33) : doAll L (M ++ N) = doAll (doAll L M) N := by unfold doAll; rw [List.foldl_append]
theorem GoodC.snoc {room : Int} {L : List Ses} {c : S33} {M : List S33} (h : GoodC room L M) (k : OkC room (doAll L M) c) : GoodC room L (M ++ [c]) := by
  intro j d hd
  by_cases hj : j < M.length
  · rw [List.getElem?_append_left hj] at hd
    rw [List.take_append_of_le_length (by omega)]
    exact h j d hd
  · have hj2 : j = M.length := by
      have := (List.getElem?_eq_some_iff.1 hd).1
      simp at this
      omega
    subst hj2
    rw [List.getElem?_append_right (Nat.le_refl _), Nat.sub_self] at hd
    simp at hd
    subst hd
    rw [List.take_append_of_le_length (Nat.le_refl _), List.take_length]
    exact k
theorem doAll_snoc {L : List Ses} {M : List S33} {k : Nat} {c : S33} (h : M[k]? = some c) : doAll L (M.take (k + 1)) = doC (doAll L (M.take k)) c := by
  obtain ⟨hl, rfl⟩ := List.getElem?_eq_some_iff.1 h
  rw [List.take_succ_eq_append_getElem hl, doAll_append]
  rfl
theorem same_gon (y z : Ses) : sameB y (sesOf (gonOf z)) = sameB y z := rfl
theorem same_symm {y z : Ses} (h : sameB y z = false) : sameB z y = false := by
  cases hs : sameB z y with
  | false => rfl
  | true =>
    rw [same_iff] at hs
    have : sameB y z = true := same_iff.2 ⟨hs.1.symm, hs.2.1.symm, hs.2.2.symm⟩
    rw [this] at h
    cases h
theorem same_self (z : Ses) : sameB z z = true := same_iff.2 ⟨rfl, rfl, rfl⟩
structure WF (L : List Ses) : Prop where
  span : ∀ x ∈ L, Span x
  keys : ∀ x ∈ L, In64 x.k ∧ In64 x.v
/-- Sessions taken away one behind the other. -/
theorem dels (room : Int) : ∀ (T : List Ses) (L : List Ses), WF L → (∀ z ∈ T, z ∈ L) → (T.Pairwise fun x y => sameB x y = false) → GoodC room L (T.map gonOf) ∧ doAll L (T.map gonOf) = L.filter fun y => T.all fun z => !sameB y z
  | [], L, hw, _, _ => ⟨GoodC.nil _ _, by
      show L = _
      symm
      rw [List.filter_eq_self]
      intro y hy
      rfl⟩
  | z :: T, L, hw, hm, hp => by
    have hz := hm z List.mem_cons_self
    obtain ⟨hp1, hp2⟩ := List.pairwise_cons.1 hp
    have hd : doC L (gonOf z) = L.filter fun y => !sameB y z := by
      unfold doC
      rw [if_pos (show (gonOf z).f4 = true from rfl)]
      rfl
    have ih := dels room T (doC L (gonOf z)) (by
      rw [hd]
      exact ⟨fun x hx => hw.span x (List.mem_filter.1 hx).1, fun x hx => hw.keys x (List.mem_filter.1 hx).1⟩) (fun y hy => by
      rw [hd, List.mem_filter]
      refine ⟨hm y (List.mem_cons_of_mem _ hy), ?_⟩
      rw [same_symm (hp1 y hy)]
      rfl) hp2
    refine ⟨GoodC.cons ⟨?_, ⟨(hw.keys z hz).1, by show In64 0; exact ⟨by omega, by omega⟩⟩, fun _ => ⟨rfl, ?_⟩, fun h => by cases h⟩ ih.1, ?_⟩
    · have := hw.span z hz
      exact this
    · unfold hasS
      exact List.any_eq_true.2 ⟨z, hz, same_self z⟩
    · show doAll (doC L (gonOf z)) (T.map gonOf) = _
      rw [ih.2, hd, List.filter_filter]
      refine List.filter_congr fun y hy => ?_
      rw [List.all_cons]
      exact Bool.and_comm _ _
theorem rise_pair {L : List Ses} (h : Rise L) : L.Pairwise fun x y => sameB x y = false := h.imp fun {x y} h => lt_not_same h
/-- Expire. -/
theorem again_exp (room g before : Int) (L : List Ses) (hr : Rise L) (hw : WF L) : GoodC room L (expM g before L) ∧ doAll L (expM g before L) = expL g before L := by
  have h := dels room (L.filter (endB g before)) L hw (fun z hz => (List.mem_filter.1 hz).1) ((rise_pair hr).sublist List.filter_sublist)
  refine ⟨h.1, ?_⟩
  show doAll L ((L.filter (endB g before)).map gonOf) = _
  rw [h.2]
  unfold expL
  refine List.filter_congr fun y hy => ?_
  rw [Bool.eq_iff_iff, List.all_eq_true]
  constructor
  · intro h
    cases hb : endB g before y with
    | false => rfl
    | true =>
      have := h y (List.mem_filter.2 ⟨hy, hb⟩)
      rw [same_self] at this
      cases this
  · intro h z hz
    cases hs : sameB y z with
    | false => rfl
    | true =>
      rw [same_iff] at hs
      have h2 := (List.mem_filter.1 hz).2
      unfold endB at h h2
      rw [hs.2.2] at h
      rw [h2] at h
      cases h
theorem touch_same {g key t : Int} {y z : Ses} (h : sameB y z = true) : touchB g key t y = touchB g key t z := by
  rw [same_iff] at h
  unfold touchB
  rw [h.1, h.2.1, h.2.2]
/-- Put. -/
theorem again_put (room r1 g key t v : Int) (L : List Ses) (hg : 1 ≤ g) (hr : Rise L) (hw : WF L) (hk : In64 key) (hv : In64 v) (hl : (L.length : Int) < room) : GoodC room L (putM r1 g L key t v) ∧ doAll L (putM r1 g L key t v) = putL r1 g L key t v := by
  unfold putM putL
  cases ho : putOK r1 g L key t with
  | false => rw [if_neg (by simp), if_neg (by simp)]; exact ⟨GoodC.nil _ _, rfl⟩
  | true =>
    rw [if_pos rfl, if_pos rfl]
    have hm : mayT t = true := by unfold putOK at ho; rw [Bool.and_eq_true] at ho; exact ho.1
    have hsp := put_span (g := g) (key := key) (v := v) hw.span hm
    have hfr := put_fresh (L := L) (g := g) (key := key) (t := t) (v := v) hg
    have hkx : (putX g L key t v).k = key := rfl
    have hvx : (putX g L key t v).v = v := rfl
    have hps : putS g L key t v = insS (stayL g L key t) (putX g L key t v) := rfl
    rw [hps]
    generalize putX g L key t v = x at *
    rw [List.filter_map]
    obtain ⟨T, hT⟩ : ∃ T, (findL g L key t).filter ((fun c => !p1B x c) ∘ gonOf) = T := ⟨_, rfl⟩
    rw [hT]
    have hTm : ∀ z, z ∈ T ↔ (z ∈ L ∧ touchB g key t z = true ∧ ¬ (z.a = x.a ∧ z.b = x.b)) := by
      intro z
      rw [← hT, List.mem_filter]
      unfold findL
      rw [List.mem_filter]
      unfold p1B
      simp only [Function.comp, Bool.not_eq_true', Bool.and_eq_false_iff, decide_eq_false_iff_not]
      show (_ ∧ _) ∧ (¬ z.a = x.a ∨ ¬ z.b = x.b) ↔ _
      constructor
      · rintro ⟨⟨h1, h2⟩, h3⟩
        exact ⟨h1, h2, fun h => by rcases h3 with h3 | h3; exact h3 h.1; exact h3 h.2⟩
      · rintro ⟨h1, h2, h3⟩
        refine ⟨⟨h1, h2⟩, ?_⟩
        by_cases h4 : z.a = x.a
        · exact .inr fun h5 => h3 ⟨h4, h5⟩
        · exact .inl h4
    have h := dels room T L hw (fun z hz => ((hTm z).1 hz).1) ((rise_pair hr).sublist (by rw [← hT]; unfold findL; exact List.filter_sublist.trans List.filter_sublist))
    have hsub : (doAll L (T.map gonOf)).length ≤ L.length := by rw [h.2]; exact List.length_filter_le _ _
    have hses : sesOf (chgOf x) = x := rfl
    refine ⟨GoodC.snoc h.1 ⟨by rw [hses]; exact hsp, ⟨by show In64 x.k; rw [hkx]; exact hk, by show In64 x.v; rw [hvx]; exact hv⟩, (fun h => by cases h), (fun _ => .inr (by omega))⟩, ?_⟩
    rw [doAll_append]
    show doC (doAll L (T.map gonOf)) (chgOf x) = _
    unfold doC
    rw [if_neg (by show ¬ (false = true); simp), hses]
    have hst : delS (doAll L (T.map gonOf)) x = stayL g L key t := by
      rw [h.2]
      unfold delS stayL
      rw [List.filter_filter]
      refine List.filter_congr fun y hy => ?_
      rw [Bool.eq_iff_iff, Bool.and_eq_true, List.all_eq_true]
      constructor
      · rintro ⟨h1, h2⟩
        cases hb : touchB g key t y with
        | false => rfl
        | true =>
          exfalso
          by_cases he : y.a = x.a ∧ y.b = x.b
          · have hky : y.k = key := (touch_iff.1 hb).1
            have : sameB y x = true := same_iff.2 ⟨by rw [hky, hkx], he.1, he.2⟩
            rw [this] at h1
            cases h1
          · have := h2 y ((hTm y).2 ⟨hy, hb, he⟩)
            rw [same_self] at this
            cases this
      · intro hb
        have hb' : touchB g key t y = false := by simpa using hb
        refine ⟨?_, fun z hz => ?_⟩
        · rw [hfr y (List.mem_filter.2 ⟨hy, hb⟩)]
          rfl
        · cases hs : sameB y z with
          | false => rfl
          | true =>
            have := ((hTm z).1 hz).2.1
            rw [← touch_same hs, hb'] at this
            cases this
    rw [hst]
theorem putL_room {r g : Int} {L : List Ses} {key t v : Int} (hl : (L.length : Int) ≤ r) : ((putL r g L key t v).length : Int) ≤ r := by
  unfold putL
  split
  · rename_i ho
    have h := put_len g L key t v
    unfold putOK at ho
    rw [Bool.and_eq_true, Bool.or_eq_true] at ho
    rcases ho.2 with h2 | h2
    · have : 0 < (findL g L key t).length := by cases hf : findL g L key t with | nil => rw [hf] at h2; simp at h2 | cons a b => simp
      omega
    · have := of_decide_eq_true h2
      omega
  · exact hl
theorem expL_len (g before : Int) (L : List Ses) : (expL g before L).length ≤ L.length := List.length_filter_le _ _
end Go.Proofs.Ytpjfmilokadchaa.Se
