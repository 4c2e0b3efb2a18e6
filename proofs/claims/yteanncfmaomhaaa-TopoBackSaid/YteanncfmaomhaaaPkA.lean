/- Contracts of pack's readers: what is left, a new reader, a number that is read. -/
import Derived.Test.YteanncfmaomhaaaWMore
import Derived.Test.YteanncfmaomhaaaWLast
import Derived.Test.YteanncfmaomhaaaPkPure
import Derived.ScopeJumps
import Derived.WalkMore
import Derived.OneCell
import Derived.Test.YteanncfmaomhaaaProg
namespace Go.Proofs.Yteanncfmaomhaaa.Pk
open Go Go.RowKit Go.Proofs.YteanncfmaomhaaaW.PrintWords Go.Proofs.YteanncfmaomhaaaW.PrintLast Go.Proofs.YteanncfmaomhaaaW.PrintMore
set_option linter.unusedVariables false
set_option linter.unusedSimpArgs false

theorem infoU8 : (Try.prog.info? 5).map (fun i => (i.zero, i.size, i.bytes)) = some (some (.int .u8 0), 1, 1) := by kernel_rfl

theorem cell_below {w w1 : World} {a : Addr} {v : Value} (hb : Below w.heap.size w w1) (h : w.cell? a = some v) : w1.cell? a = some v := pw_cell_below hb h
theorem fz_below {w w1 : World} {a : Addr} {v : Value} (hb : Below w.heap.size w w1) (hc : w.cell? a = some v) (h : w.frozen? a = false) : w1.frozen? a = false := (hb.frozen (World.block_lt_of_cell? w a hc)).trans h
theorem cell_new (w : World) (cs : Array Value) (e : TypeId) (j : Nat) (v : Value) (h : cs[j]? = some v) : (w.alloc (.cells cs e)).cell? ⟨w.heap.size, j, none⟩ = some v := by
  rw [cell_of_row _ _ _ _ _ _ (heap_alloc_new w _)]
  exact h
theorem C_take' {α : Type} {k : Kd α} {w : World} {A : Option Addr} {xs : List α} {m : Nat} (h : k.C w A xs.length xs) (hm : m ≤ xs.length) : k.C w A m (xs.take m) := by
  have := Kd.C_take h hm
  rwa [List.length_take, Nat.min_eq_left hm] at this
theorem C_drop' {α : Type} {k : Kd α} {w : World} {A : Option Addr} {xs : List α} {m c : Nat} (h : k.C w A xs.length xs) (hm : m ≤ xs.length) (hc : xs.length ≤ c) : k.C w (if c = m then A else A.map (·.add (m * k.sz))) (xs.length - m) (xs.drop m) := by
  have := Kd.C_drop h hm hc
  rwa [List.length_drop] at this
/-- A reader in block b: what is left is xs, in a row of the call's own. -/
def Rdr (w : World) (base b : Nat) (xs : List Int) : Prop :=
  base ≤ b ∧ Byt xs ∧ ∃ v, w.heap[b]? = some (.cells #[v] 84 (0, 0)) ∧ (Kd.int .u8).Q 5 w base (fun _ => True) v xs

theorem Rdr.byt {w : World} {base b : Nat} {xs : List Int} (h : Rdr w base b xs) : Byt xs := h.2.1
theorem Rdr.lt {w : World} {base b : Nat} {xs : List Int} (h : Rdr w base b xs) : b < w.heap.size := by
  obtain ⟨_, _, v, hb, _⟩ := h
  exact (Array.getElem?_eq_some_iff.1 hb).1
theorem Rdr.below {w w1 : World} {base b : Nat} {xs : List Int} (h : Rdr w base b xs) (hb : Below w.heap.size w w1) : Rdr w1 base b xs := by
  obtain ⟨h1, h2, v, h3, h4⟩ := h
  exact ⟨h1, h2, v, (hb.block b (Array.getElem?_eq_some_iff.1 h3).1).trans h3, Kd.Q_below h4 hb⟩
theorem Rdr.lower {w : World} {base base' b : Nat} {xs : List Int} (h : Rdr w base b xs) (hb : base' ≤ base) : Rdr w base' b xs := by
  obtain ⟨h1, h2, v, h3, h4⟩ := h
  exact ⟨by omega, h2, v, h3, Kd.Q_lower h4 hb⟩
/-- Another reader was read. -/
theorem Rdr.other {w w1 : World} {base base1 b b1 : Nat} {xs xs1 : List Int} (h : Rdr w base b xs) (h1 : Rdr w base1 b1 xs1) (hne : b ≠ b1) (hg : w.grownBy w1 (some b1)) : Rdr w1 base b xs := by
  obtain ⟨k1, k2, v, k3, k4⟩ := h
  obtain ⟨_, _, v1, k5, _⟩ := h1
  refine ⟨k1, k2, v, (hg.block b (Array.getElem?_eq_some_iff.1 k3).1 (by simpa using hne)).trans k3, ?_⟩
  exact Kd.Q_mono (Kd.Q_grown (Kd.Q_types k4 k5 (by simp [Kd.int, Kd.scalar])) hg (fun k hk => by simpa using hk.2)) (fun _ _ => trivial)
/-- What a reader's call leaves of old memory. -/
theorem Rdr.from {w0 w w1 : World} {base b : Nat} {xs : List Int} (h : Rdr w base b xs) (hb : Below base w0 w) (hs : base ≤ w.heap.size) (hg : w.grownBy w1 (some b)) : Below base w0 w1 :=
  hb.grown hg hs (fun k hk => by
    have := h.1
    simp only [Option.some.injEq] at hk
    omega)

set_option maxHeartbeats 400000 in
theorem left_some (b : Nat) (xs : List Int) (base : Nat) (w : World) (h : Rdr w base b xs) :
    Calls Try.prog 31 #[.pointer (some ⟨b, 0, none⟩)] w fun e w' => e = .returned (.int .i64 xs.length) ∧ w = w' := by
  obtain ⟨_, _, v, hb, hq⟩ := h
  obtain ⟨A, c, rfl, hc⟩ := Kd.Q_slice hq
  have hcell : w.cell? ⟨b, 0, none⟩ = some (.slice A xs.length c) := by simp [World.cell?, hb]
  clear hq hb
  go_enter Try.func31, Try.ntmps31
  go_wp2
  go_ret
  exact ⟨rfl, rfl⟩

set_option maxHeartbeats 400000 in
theorem left_none (w : World) :
    Calls Try.prog 31 #[.pointer none] w fun e w' => e = .returned (.int .i64 0) ∧ w = w' := by
  go_enter Try.func31, Try.ntmps31
  go_wp2
  go_ret
  exact ⟨rfl, rfl⟩

set_option maxHeartbeats 400000 in
theorem from_any (A0 : Option Addr) (c0 : Nat) (l0 : List Int) (w : World) (hr0 : Kd.C (Kd.int .u8) w A0 l0.length l0) (hl : l0.length < 140737488355328) (hby : Byt l0) :
    Calls Try.prog 28 #[.slice A0 l0.length c0] w fun e w' => ∃ b, e = .returned (.pointer (some ⟨b, 0, none⟩)) ∧ Rdr w' w.heap.size b l0 ∧ Below w.heap.size w w' := by
  have HR0 := Aside0.mk hr0
  have HL := Aside0.mk hl
  have HBY := Aside0.mk hby
  have HB := Aside0.mk (Below.refl w.heap.size w)
  clear hr0 hl hby
  go_enter Try.func28, Try.ntmps28
  go_wp2_with (first
    | ((with_reducible refine gate_dst (N := 3) rfl ?_); refine Kd.R_lit (Kd.int .u8) _ 5 ?hg (N := 3) ?hd (xs := ([] : List Int)) (inner := []) (ok := fun _ => True) (okp := fun _ => True) ?hr ?hp (fun _ hk => hk) trivial (Below.refl _ _) (Nat.le_refl _) (by simp) ?_; (case hd => rfl); (case hg => rfl); (case hr => first | (go_simp; done) | (go_simp; rfl)); (case hp => exact (Reps.none _ _)); intro v3 w3 ho hb hg_ hnew_; have n0_ := Aside0.mk (Kd.R_lower ho (below_size HB.out)); have n1_ := Aside0.mk (below_step HB.out hb); clear HB hg_ hnew_ hb ho; have HO := n0_; have HB := n1_; clear n0_ n1_)
    | ((with_reducible refine gate_builtin (b := .append) (xs := #[.tmp 3, .tmp 4]) rfl ?_); at_builtin; refine Kd.R_append_rows (Kd.int .u8) (w0 := w) w.heap.size rfl (.tmp 3) (.tmp 4) 44 5 (.int .u8 0) 1 rfl Try.underlying44 infoU8 rfl (by decide) (by omega) v3 [] l0 _ _ _ (fun _ => True) (fun _ => False) rfl rfl ?aO ?aR (fun _ _ h => h) (fun _ h => h.elim) (fun _ _ => trivial) HB.out (below_size HB.out) ?aL ?_; (case aR => exact (Kd.C_below HR0.out HB.out)); (case aO => exact HO.out); (case aL => have := HL.out; simp; omega); intro v5 w5 ho hb hg hat; obtain ⟨A5, c5, rfl⟩ := Kd.R_slice ho; have n0_ := Aside0.mk (hb); have n1_ := Aside0.mk (ho); clear HB HO; have HB := n0_; have HO := n1_; clear n0_ n1_ ho hb hg hat))
  go_ret
  refine ⟨w5.heap.size, rfl, ⟨HB.out.size, HBY.out, _, heap_alloc_new _ _, ?_⟩, below_alloc HB.out _⟩
  exact Kd.Q_alloc (Kd.Q_of_R HO.out) _

theorem from_len (A0 : Option Addr) (n c0 : Nat) (l0 : List Int) (w : World) (hn : l0.length = n) (hr0 : Kd.C (Kd.int .u8) w A0 n l0) (hl : l0.length < 140737488355328) (hby : Byt l0) :
    Calls Try.prog 28 #[.slice A0 n c0] w fun e w' => ∃ b, e = .returned (.pointer (some ⟨b, 0, none⟩)) ∧ Rdr w' w.heap.size b l0 ∧ Below w.heap.size w w' := by
  subst hn
  exact from_any A0 c0 l0 w hr0 hl hby

/-- A scope with one label to which the run goes back: the walk of the pass, its exits under one name. -/
theorem wp_scope_label {P : Program} {a : Act} {w : World} {Q : Exit → Act → World → Prop} {c rest : Code} (l : Nat) (J : Act → World → Prop) (μ : Act → World → Nat) (hf : findLabel c l = some (.seq .skip rest))
    (pass : ∀ a w, J a w → ∀ Qx : Exit → Act → World → Prop, (∀ a' w', J a' w' ∧ μ a' w' < μ a w → Qx (.goto l) a' w') → (∀ a' w', Q .ret a' w' → Qx .ret a' w') → rest.wp P Qx a w)
    (first : (∀ a w, J a w → rest.wp P (Exit.jump l J Q) a w) → c.wp P (Exit.jump l J Q) a w) : (Code.scope c).wp P Q a w :=
  wp_scope_jumps l J μ hf (first fun a w h => pass a w h _ (fun a' w' q => ⟨rfl, q.1⟩) (fun a' w' q => q)) (fun a w h => wp_seq (wp_skip (pass a w h _ (fun a' w' q => ⟨rfl, q⟩) (fun a' w' q => q))))
def slotInt (a : Act) (k : Nat) : Int := intOf (a.tmps.getD k undef)
def UJ (b : Nat) (xs : List Int) (w : World) (a' : Act) (w' : World) : Prop := w' = w ∧ ∃ (i : Nat) (n : Int) (u6 u7 u8 u9 u10 u11 u12 u13 u14 u15 u16 u17 u18 u19 u20 u21 u22 u23 u24 u25 u26 u27 u28 u29 u30 u31 u32 u33 u34 u35 u36 u37 u38 u39 u40 u41 u42 u43 u44 u45 u46 u47 u48 u49 u50 u51 u52 u53 u54 u55 u56 u57 u58 u59 : Value), a' = { tmps := #[.pointer (some ⟨b, 0, none⟩), undef, .int .u64 0, .int .i64 0, .int .u64 n, .int .i64 (i : Nat), u6, u7, u8, u9, u10, u11, u12, u13, u14, u15, u16, u17, u18, u19, u20, u21, u22, u23, u24, u25, u26, u27, u28, u29, u30, u31, u32, u33, u34, u35, u36, u37, u38, u39, u40, u41, u42, u43, u44, u45, u46, u47, u48, u49, u50, u51, u52, u53, u54, u55, u56, u57, u58, u59], defers := [] } ∧ i ≤ 10 ∧ i ≤ xs.length ∧ Inv xs i n
def UM (a' : Act) (w' : World) : Nat := 11 - (slotInt a' 5).toNat
def UPost (b : Nat) (xs : List Int) (base : Nat) (w : World) (e : Ending) (w' : World) : Prop := e = .returned (.tuple #[.int .u64 (rdU xs).1, .int .i64 (rdU xs).2.1]) ∧ Rdr w' base b (rdU xs).2.2 ∧ w.grownBy w' (some b)
theorem UPost.stay {b : Nat} {xs : List Int} {base : Nat} {w : World} {n e : Int} (hr : Rdr w base b xs) (h : rdU xs = (n, e, xs)) : UPost b xs base w (.returned (.tuple #[.int .u64 n, .int .i64 e])) w := by
  unfold UPost
  rw [h]
  exact ⟨rfl, hr, ⟨rfl, rfl, rfl, Nat.le_refl _, fun _ _ _ => rfl⟩⟩
theorem UPost.goes {b : Nat} {xs : List Int} {base : Nat} {w : World} {n : Int} {i : Nat} {A : Option Addr} {c : Nat} (hr : Rdr w base b xs) (hcell : w.cell? ⟨b, 0, none⟩ = some (.slice A xs.length c)) (hi : i ≤ xs.length) (h : rdU xs = (n, 0, xs.drop i)) :
    UPost b xs base w (.returned (.tuple #[.int .u64 n, .int .i64 0])) (w.setCell ⟨b, 0, none⟩ (.slice (if c = i then A else A.map (·.add (i * 1))) (xs.length - i) (c - i))) := by
  unfold UPost
  rw [h]
  obtain ⟨h1, h2, v, h3, h4⟩ := hr
  have hv : v = .slice A xs.length c := by
    simp [World.cell?, h3] at hcell
    exact hcell
  subst hv
  refine ⟨rfl, ⟨h1, fun x hx => h2 x (List.mem_of_mem_drop hx), _, ?_, Kd.Q_set (Kd.Q_drop h4 hi) h3 (by simp [Kd.int, Kd.scalar]) 0 _⟩, ⟨rfl, rfl, rfl, by simp [World.setCell], fun k _ hk => ?_⟩⟩
  · simp [World.setCell, Array.getElem?_modify, h3, Kd.int, Kd.scalar]
  · exact Below.heap_setCell _ _ _ _ (fun e => hk (by rw [e]))
set_option maxHeartbeats 1000000 in
set_option maxRecDepth 100000 in
theorem uint_some (b : Nat) (xs : List Int) (base : Nat) (w : World) (h : Rdr w base b xs) :
    Calls Try.prog 29 #[.pointer (some ⟨b, 0, none⟩)] w (UPost b xs base w) := by
  have HR := Aside0.mk h
  have HBY := Aside0.mk h.byt
  obtain ⟨_, _, v, hb, hq⟩ := h
  obtain ⟨A, c, rfl, hc⟩ := Kd.Q_slice hq
  have hcell : w.cell? ⟨b, 0, none⟩ = some (.slice A xs.length c) := by simp [World.cell?, hb]
  have hfz : w.frozen? ⟨b, 0, none⟩ = false := by simp [World.frozen?, hb]
  have HC := Aside0.mk (Kd.Q_reads' hq).2.2
  have HM := Aside0.mk HC.out.2.1
  clear hq hb
  go_enter Try.func29, Try.ntmps29
  go_wp2
  refine wp_scope_label 0 (UJ b xs w) UM rfl ?_ ?_
  · rintro a' w' ⟨rfl, i, n, u6, u7, u8, u9, u10, u11, u12, u13, u14, u15, u16, u17, u18, u19, u20, u21, u22, u23, u24, u25, u26, u27, u28, u29, u30, u31, u32, u33, u34, u35, u36, u37, u38, u39, u40, u41, u42, u43, u44, u45, u46, u47, u48, u49, u50, u51, u52, u53, u54, u55, u56, u57, u58, u59, rfl, hi, hix, hn⟩ Qx hgo hret
    have HN := Aside0.mk hn
    clear hn
    have hm := HM.out
    have HGO := Aside0.mk hgo
    have HRET := Aside0.mk hret
    clear hgo hret
    by_cases h1 : i = xs.length
    · have h1b : ((i : Int) == (xs.length : Int)) = true := by simp [h1]
      have hfin := Aside0.mk (inv_end HN.out h1)
      clear h1
      by_cases h2 : i = 10
      · rw [if_pos h2] at hfin
        have h2b : ((i : Int) == 10) = true := by simp [h2]
        clear h2
        go_wp2_with (go_at_call 31; refine (left_some b xs base _ HR.out).mono ?_; rintro e w1 ⟨rfl, rfl⟩)
        refine HRET.out _ _ ?_
        go_ret2
        exact UPost.stay HR.out hfin.out
      · rw [if_neg h2] at hfin
        have h2b : ((i : Int) == 10) = false := by simp; omega
        go_wp2_with (go_at_call 31; refine (left_some b xs base _ HR.out).mono ?_; rintro e w1 ⟨rfl, rfl⟩)
        refine HRET.out _ _ ?_
        go_ret2
        exact UPost.stay HR.out hfin.out
    · have h1b : ((i : Int) == (xs.length : Int)) = false := by simp; omega
      have hlt : i < xs.length := by omega
      have hq : xs[i]? = some (rd xs i) := by unfold rd; rw [List.getElem?_eq_getElem hlt, List.getD_eq_getElem?_getD, List.getElem?_eq_getElem (by simpa using hlt)]; simp
      have HQ := Aside0.mk hq
      obtain ⟨hr0, hr1⟩ := HBY.out _ (List.mem_of_getElem? hq)
      clear hq h1
      by_cases h2 : i = 10
      · have hfin := Aside0.mk (inv_ten HN.out HQ.out h2)
        have h2b : ((i : Int) == 10) = true := by simp [h2]
        clear h2 hr0 hr1
        go_wp2_with (go_at_call 31; refine (left_some b xs base _ HR.out).mono ?_; rintro e w1 ⟨rfl, rfl⟩)
        refine HRET.out _ _ ?_
        go_ret2
        exact UPost.stay HR.out hfin.out
      · have h2b : ((i : Int) == 10) = false := by simp; omega
        obtain ⟨ad, rfl, hx⟩ := Kd.at_int HC.out i (by omega) (by omega)
        have hx' : w'.cell? (ad.add i) = some (.int .u8 (rd xs i)) := hx
        clear hx
        generalize rd xs i = q at *
        have hp1 := not128 q hr0 hr1
        have hp2 := and128 q hr0 hr1
        have p0 : 0 ≤ q % 128 := by omega
        have p1 : q % 128 < 128 := by omega
        have HI9 := Aside0.mk (fun h : i = 9 => h)
        obtain ⟨p, HP⟩ : ∃ p, Aside0 (q % 128 = p) := ⟨_, ⟨rfl⟩⟩
        rw [HP.out] at hp1 p0 p1
        have hw : IntKind.u64.wrap p = p := wrap_u64 p0 (by omega)
        by_cases h3 : i = 9 ∧ 1 < p
        · have h3b : ((i : Int) == 9) = true := by simp [h3.1]
          have h4b : decide (1 < p) = true := decide_eq_true h3.2
          have hfin := Aside0.mk (inv_nine HN.out HQ.out h3.1 (by rw [HP.out]; exact h3.2))
          clear h3 hp2
          go_wp2_with (go_at_call 31; refine (left_some b xs base _ HR.out).mono ?_; rintro e w1 ⟨rfl, rfl⟩)
          refine HRET.out _ _ ?_
          go_ret2
          exact UPost.stay HR.out hfin.out
        · have H9 : Aside0 (i = 9 → q % 128 ≤ 1) := ⟨fun h => by rw [HP.out]; omega⟩
          have hor : bits .or .u64 n (IntKind.u64.wrap (p * 2 ^ (7 * i))) = n + 128 ^ i * p := or_shift n p i HN.out.1 HN.out.2.1 p0 (sum_lt HN.out.2.1 p0 p1 (by omega) (fun h => by omega))
          obtain ⟨n2, HN2⟩ : ∃ n2, Aside0 (n + 128 ^ i * p = n2) := ⟨_, ⟨rfl⟩⟩
          rw [HN2.out] at hor
          obtain ⟨i0, hi0, hz0⟩ := Option.map_eq_some_iff.1 infoU8
          simp only [Prod.mk.injEq] at hz0
          obtain ⟨A', HA'⟩ : ∃ A', Aside0 ((if c = i + 1 then some ad else (some ad : Option Addr).map (·.add ((i + 1) * 1))) = A') := ⟨_, ⟨rfl⟩⟩
          have hcut : ∀ W : World, (Instr.slice 44 (.slice (some ad) xs.length c) (some (.int .i64 ((i : Int) + 1))) none none).run Try.prog W = .ok (.slice A' (xs.length - (i + 1)) (c - (i + 1))) W := by
            rw [← HA'.out]
            exact cut_from (P := Try.prog) 44 5 .i64 Try.underlying44 hi0 1 hz0.2.1 (some ad) xs.length c ((i : Int) + 1) (by omega) (by omega)
          clear hi0 hz0
          have hpart : (((i : Int) == 9) = true ∧ decide (1 < p) = false) ∨ ((i : Int) == 9) = false := by
            by_cases h : i = 9
            · exact .inl ⟨by simp [h], by simp; omega⟩
            · exact .inr (by simp; omega)
          clear h3
          by_cases hg : 128 ≤ q
          · have hp3 : (bits .and .u8 q 128 != 0) = true := by rw [hp2]; exact decide_eq_true hg
            have hnext := Aside0.mk (inv_next HN.out HQ.out (by omega) H9.out hg)
            rw [HP.out, HN2.out] at hnext
            clear hp2
            rcases hpart with ⟨h3b, h4b⟩ | h3b
            all_goals
              go_wp2_with (go_at_call 31; refine (left_some b xs base _ HR.out).mono ?_; rintro e w1 ⟨rfl, rfl⟩)
              go_step3
              refine HGO.out _ _ ⟨⟨rfl, i + 1, n2, _, _, _, _, _, _, _, _, _, _, _, _, _, _, _, _, _, _, _, _, _, _, _, _, _, _, _, _, _, _, _, _, _, _, _, _, _, _, _, _, _, _, _, _, _, _, _, _, _, _, _, _, _, _, rfl, by omega, by omega, hnext.out⟩, ?_⟩
              simp [UM, slotInt, intOf]
              omega
          · have hp3 : (bits .and .u8 q 128 != 0) = false := by rw [hp2]; exact decide_eq_false hg
            clear hp2
            by_cases hz : q = 0 ∧ 1 ≤ i
            · have hzb : (q == 0) = true := by simp [hz.1]
              have hib : decide (1 < (i : Int) + 1) = true := by simp; omega
              have hfin := Aside0.mk (inv_null HN.out HQ.out (by omega) hz.1 hz.2)
              clear hz
              rcases hpart with ⟨h3b, h4b⟩ | h3b
              all_goals
                go_wp2_with (go_at_call 31; refine (left_some b xs base _ HR.out).mono ?_; rintro e w1 ⟨rfl, rfl⟩)
                refine HRET.out _ _ ?_
                go_ret2
                exact UPost.stay HR.out hfin.out
            · have hfin := Aside0.mk (inv_good HN.out HQ.out (by omega) H9.out hr0 (by omega) hz)
              rw [show q = p by have := HP.out; omega, HN2.out] at hfin
              have hzp : ((q == 0) = true ∧ decide (1 < (i : Int) + 1) = false) ∨ (q == 0) = false := by
                by_cases h : q = 0
                · exact .inl ⟨by simp [h], by simp; omega⟩
                · exact .inr (by simp; omega)
              clear hz
              rcases hpart with ⟨h3b, h4b⟩ | h3b <;> rcases hzp with ⟨h5b, h6b⟩ | h5b
              all_goals
                go_wp2_with (go_at_call 31; refine (left_some b xs base _ HR.out).mono ?_; rintro e w1 ⟨rfl, rfl⟩)
                refine HRET.out _ _ ?_
                go_ret2
                rw [← HA'.out]
                exact UPost.goes HR.out hcell (by omega) hfin.out
  · intro hr
    go_wp2_with fail
    go_step3
    iterate 2 go_step
    exact hr _ _ ⟨rfl, 0, 0, _, _, _, _, _, _, _, _, _, _, _, _, _, _, _, _, _, _, _, _, _, _, _, _, _, _, _, _, _, _, _, _, _, _, _, _, _, _, _, _, _, _, _, _, _, _, _, _, _, _, _, _, _, _, rfl, by omega, by omega, inv_zero xs⟩
end Go.Proofs.Yteanncfmaomhaaa.Pk
