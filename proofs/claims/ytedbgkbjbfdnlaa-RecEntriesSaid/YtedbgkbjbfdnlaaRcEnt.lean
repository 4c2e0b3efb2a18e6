/- The statement RecEntries. -/
import Derived.Test.YtedbgkbjbfdnlaaRcTeR
import Derived.Test.YtedbgkbjbfdnlaaRcTeC
import Derived.Test.YtedbgkbjbfdnlaaRcKinds
import Derived.Test.YtedbgkbjbfdnlaaRp4
namespace Go.Proofs.Ytedbgkbjbfdnlaa.Rc
open Go Go.RowKit Go.Proofs.YtedbgkbjbfdnlaaW.PrintWords Go.Proofs.YtedbgkbjbfdnlaaW.PrintLast Go.Proofs.YtedbgkbjbfdnlaaW.PrintMore Go.Proofs.Ytedbgkbjbfdnlaa.Pk
set_option linter.unusedVariables false
set_option linter.unusedSimpArgs false
theorem R_str {w : World} {base : Nat} {ok : Nat → Prop} {v : Value} {xs : List Int} (h : (Kd.int .u8).R 5 w base ok v xs) : (convert 32 9 v).run Try.prog w = .ok (.string (strOfNums xs)) w :=
  own_string Try.underlying32 Try.underlying5 Try.underlying9 (Kd.own_of_R h)
theorem stronger_ {P : Program} {ops : Array Oper} {Q : Exit → Act → World → Prop} {md : Region.Mode} {S : World → Prop} (S' : World → Prop) (hS : ∀ w, S' w → S w) : ∀ {fuel : Nat} {l : Array Bool} {a : Act} {w : World},
    S' w → wpAnyLast P md ops Q S' [] fuel l a w → wpAnyLast P md ops Q S [] fuel l a w
  | 0, _, _, _, _, h => h
  | fuel + 1, l, a, w, h0, h => ⟨h.1, fun i hi => wpOp_mono (fun a' w' h' => ⟨fun hn _ => hS w' (h'.1 hn h0), stronger_ S' hS (h'.1 (by simp) h0) h'.2⟩) (h.2 i hi)⟩
theorem same_l0 (l : List Int) (hl : l.length ≤ 1000) : ∀ (d k i : Nat), i + d = l.length → d < k → Rp.tidemillref01_Same.l0 k l l (i : Int) = some true := by
  intro d
  induction d with
  | zero =>
    intro k i hi hk
    obtain ⟨k, rfl⟩ : ∃ m, k = m + 1 := ⟨k - 1, by omega⟩
    simp only [Rp.tidemillref01_Same.l0]
    rw [if_neg (by omega)]
  | succ d ih =>
    intro k i hi hk
    obtain ⟨k, rfl⟩ : ∃ m, k = m + 1 := ⟨k - 1, by omega⟩
    simp only [Rp.tidemillref01_Same.l0]
    rw [if_pos (by omega), if_pos (by omega), if_pos (by omega), if_pos trivial, show wrap64 ((i : Int) + 1) = ((i + 1 : Nat) : Int) by unfold wrap64; omega]
    exact ih k (i + 1) (by omega) (by omega)
theorem same_f (l : List Int) (hl : l.length ≤ 1000) : Rp.tidemillref01_Same.f 1001 l l = some true := by
  unfold Rp.tidemillref01_Same.f
  rw [if_pos rfl]
  exact same_l0 l hl l.length 1001 0 (by omega) (by omega)
theorem ent_same (x : Ent) (h9 : x.offs.length ≤ 1000) (h10 : x.order.length ≤ 1000) : Rp.tidemillref03_Same.f 1001 x.kind x.task x.epoch x.txn x.log x.key x.val x.time x.del x.offs x.order x.kind x.task x.epoch x.txn x.log x.key x.val x.time x.del x.offs x.order = some true := by
  unfold Rp.tidemillref03_Same.f
  rw [same_f _ h9, same_f _ h10]
  simp
def entR (x : Ent) : List Int × Int := if may x then (entB x, 0) else ([], 1)
theorem rec_entry (x : Ent) (hx : entWf x) (A9 : Option Addr) (n9 c9 : Nat) (A10 : Option Addr) (n10 c10 : Nat) (w : World) (h9 : x.offs.length = n9) (h10 : x.order.length = n10) (hr9 : (Kd.int .i64).C w A9 n9 x.offs) (hc9 : n9 ≤ c9) (hr10 : (Kd.int .i64).C w A10 n10 x.order) (hc10 : n10 ≤ c10) (p : List Int × Int) (hp : entR x = p) :
    Calls Try.prog 12 #[.agg #[.int .i64 x.kind, .int .i64 x.task, .int .i64 x.epoch, .int .i64 x.txn, .int .i64 x.log, .int .i64 x.key, .int .i64 x.val, .int .i64 x.time, .bool x.del, .slice A9 n9 c9, .slice A10 n10 c10]] w fun e w' => ∃ v : Value, e = .returned (.tuple #[v, .int .i64 p.2]) ∧ (Kd.int .u8).R 5 w' w.heap.size (fun _ => True) v p.1 ∧ Below w.heap.size w w' := by
  subst h9 h10 hp
  exact Rp.rec_Entry.calls 306 _ _ _ _ _ _ _ _ _ A9 c9 x.offs A10 c10 x.order _ _ w hr9 hc9 hr10 hc10 (entF 300 (by omega) (by omega) x hx)
theorem ref_entry (x : Ent) (hx : entWf x) (A9 : Option Addr) (n9 c9 : Nat) (A10 : Option Addr) (n10 c10 : Nat) (w : World) (h9 : x.offs.length = n9) (h10 : x.order.length = n10) (hl9 : n9 < 9223372036854775808) (hl10 : n10 < 9223372036854775808) (hr9 : (Kd.int .i64).C w A9 n9 x.offs) (hc9 : n9 ≤ c9) (hr10 : (Kd.int .i64).C w A10 n10 x.order) (hc10 : n10 ≤ c10) (p : List Int × Int) (hp : entR x = p) :
    Calls Try.prog 17 #[.agg #[.int .i64 x.kind, .int .i64 x.task, .int .i64 x.epoch, .int .i64 x.txn, .int .i64 x.log, .int .i64 x.key, .int .i64 x.val, .int .i64 x.time, .bool x.del, .slice A9 n9 c9, .slice A10 n10 c10]] w fun e w' => ∃ v : Value, e = .returned (.tuple #[v, .int .i64 p.2]) ∧ (Kd.int .u8).R 5 w' w.heap.size (fun _ => True) v p.1 ∧ Below w.heap.size w w' := by
  subst h9 h10 hp
  by_cases hm : may x = true
  · obtain ⟨_, _, _, _, _, k9, k10⟩ := may_nums hm
    exact Rp.tidemillref03_Entry.calls (300 + 6) _ _ _ _ _ _ _ _ _ A9 c9 x.offs A10 c10 x.order _ _ w hr9 hc9 hr10 hc10 (refEntF 300 (by omega) x hx (by omega) (by omega) (by omega) (by omega) (fun _ => by omega))
  · exact Rp.tidemillref03_Entry.calls (x.offs.length + x.order.length + 300 + 6) _ _ _ _ _ _ _ _ _ A9 c9 x.offs A10 c10 x.order _ _ w hr9 hc9 hr10 hc10 (refEntF _ (by omega) x hx (by omega) (by omega) (by omega) (by omega) (fun h => absurd h hm))
theorem ref_may_at (x : Ent) (A9 : Option Addr) (n9 c9 : Nat) (A10 : Option Addr) (n10 c10 : Nat) (w : World) (h9 : x.offs.length = n9) (h10 : x.order.length = n10) (hl9 : n9 < 9223372036854775808) (hl10 : n10 < 9223372036854775808) (hr9 : (Kd.int .i64).C w A9 n9 x.offs) (hc9 : n9 ≤ c9) (hr10 : (Kd.int .i64).C w A10 n10 x.order) (hc10 : n10 ≤ c10) (tb : Bool) (hp : may x = tb) :
    Calls Try.prog 20 #[.agg #[.int .i64 x.kind, .int .i64 x.task, .int .i64 x.epoch, .int .i64 x.txn, .int .i64 x.log, .int .i64 x.key, .int .i64 x.val, .int .i64 x.time, .bool x.del, .slice A9 n9 c9, .slice A10 n10 c10]] w fun e w' => e = .returned (.bool tb) ∧ Below w.heap.size w w' := by
  subst h9 h10 hp
  exact ref_may x (by omega) (by omega) A9 c9 A10 c10 w hr9 hc9 hr10 hc10
theorem rec_may_at (x : Ent) (A9 : Option Addr) (n9 c9 : Nat) (A10 : Option Addr) (n10 c10 : Nat) (w : World) (h9 : x.offs.length = n9) (h10 : x.order.length = n10) (hr9 : (Kd.int .i64).C w A9 n9 x.offs) (hc9 : n9 ≤ c9) (hr10 : (Kd.int .i64).C w A10 n10 x.order) (hc10 : n10 ≤ c10) (tb : Bool) (hp : may x = tb) :
    Calls Try.prog 10 #[.agg #[.int .i64 x.kind, .int .i64 x.task, .int .i64 x.epoch, .int .i64 x.txn, .int .i64 x.log, .int .i64 x.key, .int .i64 x.val, .int .i64 x.time, .bool x.del, .slice A9 n9 c9, .slice A10 n10 c10]] w fun e w' => e = .returned (.bool tb) ∧ Below w.heap.size w w' := by
  subst hp
  exact may_any x.kind x.task x.epoch x.txn x.log x.key x.val x.time x.del x.offs x.order A9 n9 c9 A10 n10 c10 w h9 h10 hr9 hc9 hr10 hc10
theorem toEnt_zero (xs : List Int) : (toEnt xs).2 ≠ 0 → (toEnt xs).1 = zeroE := by
  unfold toEnt
  simp only
  by_cases h1 : (nums5 5 xs).2.1 ≠ 0
  · rw [if_pos h1]; exact fun _ => rfl
  rw [if_neg h1]
  by_cases h2 : (rec3 (nums5 5 xs).2.2).2.1 ≠ 0
  · rw [if_pos h2]; exact fun _ => rfl
  rw [if_neg h2]
  generalize rdU (rec3 (nums5 5 xs).2.2).2.2 = d
  by_cases h3 : d.2.1 ≠ 0
  · rw [if_pos h3]; exact fun _ => rfl
  rw [if_neg h3]
  generalize rdL 8 d.2.2 = o
  by_cases h4 : o.2.1 ≠ 0
  · rw [if_pos h4]; exact fun _ => rfl
  rw [if_neg h4]
  generalize rdL 256 o.2.2 = p
  by_cases h5 : p.2.1 ≠ 0
  · rw [if_pos h5]; exact fun _ => rfl
  rw [if_neg h5]
  split
  · exact fun _ => rfl
  · exact fun h => absurd rfl h
theorem toEnt_short {xs : List Int} (hb : Byt xs) : (toEnt xs).1.offs.length ≤ 1000 ∧ (toEnt xs).1.order.length ≤ 1000 := by
  by_cases h : (toEnt xs).2 = 0
  · obtain ⟨_, hm, _⟩ := toEnt_is hb h
    obtain ⟨_, _, _, _, _, k9, k10⟩ := may_nums hm
    omega
  · rw [toEnt_zero xs h]
    exact ⟨by simp [zeroE], by simp [zeroE]⟩
theorem toEnt_any (A0 : Option Addr) (c0 n : Nat) (l0 : List Int) (q : Ent × Int) (w : World) (hn : l0.length = n) (hr0 : Kd.C (Kd.int .u8) w A0 n l0) (hl : n < 140737488355328) (hby : Byt l0) (hq : toEnt l0 = q) :
    Calls Try.prog 18 #[.slice A0 n c0] w fun e w' => ∃ A9 c9 A10 c10, e = .returned (.tuple #[.agg #[.int .i64 q.1.kind, .int .i64 q.1.task, .int .i64 q.1.epoch, .int .i64 q.1.txn, .int .i64 q.1.log, .int .i64 q.1.key, .int .i64 q.1.val, .int .i64 q.1.time, .bool q.1.del, .slice A9 q.1.offs.length c9, .slice A10 q.1.order.length c10], .int .i64 q.2]) ∧ (q.1.offs.length ≤ c9 ∧ Kd.C (Kd.int .i64) w' A9 q.1.offs.length q.1.offs) ∧ (q.1.order.length ≤ c10 ∧ Kd.C (Kd.int .i64) w' A10 q.1.order.length q.1.order) ∧ Below w.heap.size w w' := by
  subst hn hq
  refine (toEnt_ok A0 c0 l0 w hr0 hl hby).mono ?_
  rintro e w' ⟨v9, v10, rfl, r9, r10, hb⟩
  obtain ⟨B9, d9, rfl⟩ := Kd.R_slice r9
  obtain ⟨B10, d10, rfl⟩ := Kd.R_slice r10
  exact ⟨_, _, _, _, rfl, (Kd.R_reads' r9).2, (Kd.R_reads' r10).2, hb⟩
theorem refEnt_any (A0 : Option Addr) (c0 n : Nat) (l0 : List Int) (q : Ent × Int) (w : World) (hn : l0.length = n) (hr0 : Kd.C (Kd.int .u8) w A0 n l0) (hc0 : n ≤ c0) (hby : Byt l0) (hq : toEnt l0 = q) :
    Calls Try.prog 19 #[.slice A0 n c0] w fun e w' => ∃ A9 c9 A10 c10, e = .returned (.tuple #[.agg #[.int .i64 q.1.kind, .int .i64 q.1.task, .int .i64 q.1.epoch, .int .i64 q.1.txn, .int .i64 q.1.log, .int .i64 q.1.key, .int .i64 q.1.val, .int .i64 q.1.time, .bool q.1.del, .slice A9 q.1.offs.length c9, .slice A10 q.1.order.length c10], .int .i64 q.2]) ∧ (q.1.offs.length ≤ c9 ∧ Kd.C (Kd.int .i64) w' A9 q.1.offs.length q.1.offs) ∧ (q.1.order.length ≤ c10 ∧ Kd.C (Kd.int .i64) w' A10 q.1.order.length q.1.order) ∧ Below w.heap.size w w' := by
  subst hn hq
  have h := refEnt_ok A0 c0 l0 w hr0 hc0 hby
  rw [refEnt_eq hby] at h
  refine h.mono ?_
  rintro e w' ⟨v9, v10, rfl, r9, r10, hb⟩
  obtain ⟨B9, d9, rfl⟩ := Kd.R_slice r9
  obtain ⟨B10, d10, rfl⟩ := Kd.R_slice r10
  exact ⟨_, _, _, _, rfl, (Kd.R_reads' r9).2, (Kd.R_reads' r10).2, hb⟩
theorem same_at (a0 a1 a2 a3 a4 a5 a6 a7 : Int) (a8 : Bool) (m9 m10 : List Int) (h9 : m9.length ≤ 1000) (h10 : m10.length ≤ 1000) (B9 : Option Addr) (d9 : Nat) (B10 : Option Addr) (d10 : Nat) (D9 : Option Addr) (f9 : Nat) (D10 : Option Addr) (f10 : Nat) (w : World)
    (x9 : m9.length ≤ d9 ∧ Kd.C (Kd.int .i64) w B9 m9.length m9) (x10 : m10.length ≤ d10 ∧ Kd.C (Kd.int .i64) w B10 m10.length m10) (y9 : m9.length ≤ f9 ∧ Kd.C (Kd.int .i64) w D9 m9.length m9) (y10 : m10.length ≤ f10 ∧ Kd.C (Kd.int .i64) w D10 m10.length m10) :
    Calls Try.prog 11 #[.agg #[.int .i64 a0, .int .i64 a1, .int .i64 a2, .int .i64 a3, .int .i64 a4, .int .i64 a5, .int .i64 a6, .int .i64 a7, .bool a8, .slice B9 m9.length d9, .slice B10 m10.length d10], .agg #[.int .i64 a0, .int .i64 a1, .int .i64 a2, .int .i64 a3, .int .i64 a4, .int .i64 a5, .int .i64 a6, .int .i64 a7, .bool a8, .slice D9 m9.length f9, .slice D10 m10.length f10]] w fun e w' => e = .returned (.bool true) ∧ Below w.heap.size w w' :=
  Rp.tidemillref03_Same.calls 1001 _ _ _ _ _ _ _ _ _ B9 d9 m9 B10 d10 m10 _ _ _ _ _ _ _ _ _ D9 f9 m9 D10 f10 m10 true w x9.2 x9.1 x10.2 x10.1 y9.2 y9.1 y10.2 y10.1 (ent_same ⟨a0, a1, a2, a3, a4, a5, a6, a7, a8, m9, m10⟩ h9 h10)
set_option maxHeartbeats 4000000 in
set_option maxRecDepth 100000 in
theorem entries_ok (k tk ep tx lg ky vl tm : Int) (dl : Bool) (l9 l10 : List Int) (A9 : Option Addr) (n9 c9 : Nat) (A10 : Option Addr) (n10 c10 : Nat) (A0 : Option Addr) (c0 : Nat) (l0 : List Int) (w : World) (h9 : l9.length = n9) (h10 : l10.length = n10) (hr9 : (Kd.int .i64).C w A9 n9 l9) (hc9 : n9 ≤ c9) (hr10 : (Kd.int .i64).C w A10 n10 l10) (hc10 : n10 ≤ c10)
    (hl9 : n9 < 9223372036854775808) (hl10 : n10 < 9223372036854775808) (hx : entWf ⟨k, tk, ep, tx, lg, ky, vl, tm, dl, l9, l10⟩) (hr0 : Kd.C (Kd.int .u8) w A0 l0.length l0) (hc0 : l0.length ≤ c0) (hl0 : l0.length < 140737488355328) (hby : Byt l0) :
    Calls Try.prog 6 #[.agg #[.int .i64 k, .int .i64 tk, .int .i64 ep, .int .i64 tx, .int .i64 lg, .int .i64 ky, .int .i64 vl, .int .i64 tm, .bool dl, .slice A9 n9 c9, .slice A10 n10 c10], .slice A0 l0.length c0] w fun e w' => e = .returned (.bool true) ∧ Below w.heap.size w w' := by
  have H9 := Aside0.mk h9
  have H10 := Aside0.mk h10
  have HC9 := Aside0.mk hr9
  have HC10 := Aside0.mk hr10
  have HL9 := Aside0.mk hc9
  have HL10 := Aside0.mk hc10
  have HN9 := Aside0.mk hl9
  have HN10 := Aside0.mk hl10
  have HX := Aside0.mk hx
  have HC0 := Aside0.mk hr0
  have HL0 := Aside0.mk hl0
  have HD0 := Aside0.mk hc0
  have HBY := Aside0.mk hby
  have HSH := Aside0.mk (toEnt_short hby)
  clear h9 h10 hr9 hr10 hc9 hc10 hx hr0 hl0 hc0 hby hl9 hl10
  obtain ⟨n0, HN0⟩ : ∃ n0, Aside0 (l0.length = n0) := ⟨_, ⟨rfl⟩⟩
  rw [HN0.out] at HC0 HL0 HD0 ⊢
  obtain ⟨⟨bs, er⟩, HP⟩ : ∃ p, Aside0 (entR ⟨k, tk, ep, tx, lg, ky, vl, tm, dl, l9, l10⟩ = p) := ⟨_, ⟨rfl⟩⟩
  obtain ⟨tb, HTB⟩ : ∃ p, Aside0 (may ⟨k, tk, ep, tx, lg, ky, vl, tm, dl, l9, l10⟩ = p) := ⟨_, ⟨rfl⟩⟩
  obtain ⟨q, HQ⟩ : ∃ p, Aside0 (toEnt l0 = p) := ⟨_, ⟨rfl⟩⟩
  rw [HQ.out] at HSH
  obtain ⟨⟨a0, a1, a2, a3, a4, a5, a6, a7, a8, m9, m10⟩, eq⟩ := q
  simp only at HSH
  go_enter Try.func6, Try.ntmps6
  go_upto_region 1 with fail
  have BK2 := Aside0.mk (heap_alloc_new w (.cells #[.int .i64 k, .int .i64 tk, .int .i64 ep, .int .i64 tx, .int .i64 lg, .int .i64 ky, .int .i64 vl, .int .i64 tm, .bool dl, .slice A9 n9 c9, .slice A10 n10 c10] 26))
  have HB := Aside0.mk (below_alloc (Below.refl w.heap.size w) (.cells #[.int .i64 k, .int .i64 tk, .int .i64 ep, .int .i64 tx, .int .i64 lg, .int .i64 ky, .int .i64 vl, .int .i64 tm, .bool dl, .slice A9 n9 c9, .slice A10 n10 c10] 26))
  have hb_ := HB.out
  generalize w.alloc (.cells #[.int .i64 k, .int .i64 tk, .int .i64 ep, .int .i64 tx, .int .i64 lg, .int .i64 ky, .int .i64 vl, .int .i64 tm, .bool dl, .slice A9 n9 c9, .slice A10 n10 c10] 26) = w1 at BK2 HB hb_ ⊢
  generalize w.heap.size = g2 at BK2 ⊢
  have n0_ := Aside0.mk (Kd.C_below HC9.out hb_); have n1_ := Aside0.mk (Kd.C_below HC10.out hb_); have n2_ := Aside0.mk (Kd.C_below HC0.out hb_); clear HC9; clear HC10; clear HC0; have HC9 := n0_; have HC10 := n1_; have HC0 := n2_; clear n0_ n1_ n2_; clear hb_
  go_wp2_with fail
  refine (shown_ok _).mono ?_
  rintro e w2 ⟨rfl, hb_⟩
  replace BK2 := Aside0.mk (blk_below BK2.out hb_)
  have n0_ := Aside0.mk (below_step HB.out hb_); have n1_ := Aside0.mk (Kd.C_below HC9.out hb_); have n2_ := Aside0.mk (Kd.C_below HC10.out hb_); have n3_ := Aside0.mk (Kd.C_below HC0.out hb_); clear HB; clear HC9; clear HC10; clear HC0; have HB := n0_; have HC9 := n1_; have HC10 := n2_; have HC0 := n3_; clear n0_ n1_ n2_ n3_; clear hb_
  have e0_ := (blk_cell BK2.out 0).trans (rfl : _ = some (.int .i64 k : Value))
  have e1_ := (blk_cell BK2.out 1).trans (rfl : _ = some (.int .i64 tk : Value))
  have e2_ := (blk_cell BK2.out 2).trans (rfl : _ = some (.int .i64 ep : Value))
  have e3_ := (blk_cell BK2.out 3).trans (rfl : _ = some (.int .i64 tx : Value))
  have e4_ := (blk_cell BK2.out 4).trans (rfl : _ = some (.int .i64 lg : Value))
  have e5_ := (blk_cell BK2.out 5).trans (rfl : _ = some (.int .i64 ky : Value))
  have e6_ := (blk_cell BK2.out 6).trans (rfl : _ = some (.int .i64 vl : Value))
  have e7_ := (blk_cell BK2.out 7).trans (rfl : _ = some (.int .i64 tm : Value))
  have e8_ := (blk_cell BK2.out 8).trans (rfl : _ = some (.bool dl : Value))
  have e9_ := (blk_cell BK2.out 9).trans (rfl : _ = some (.slice A9 n9 c9 : Value))
  have e10_ := (blk_cell BK2.out 10).trans (rfl : _ = some (.slice A10 n10 c10 : Value))

  go_wp2_with fail
  refine (rec_entry ⟨k, tk, ep, tx, lg, ky, vl, tm, dl, l9, l10⟩ HX.out A9 n9 c9 A10 n10 c10 _ H9.out H10.out HC9.out HL9.out HC10.out HL10.out _ HP.out).mono ?_
  rintro e w3 ⟨v1, rfl, hr_, hb_⟩
  have HV1 := Aside0.mk hr_
  replace BK2 := Aside0.mk (blk_below BK2.out hb_)
  have n0_ := Aside0.mk (below_step HB.out hb_); have n1_ := Aside0.mk (Kd.C_below HC9.out hb_); have n2_ := Aside0.mk (Kd.C_below HC10.out hb_); have n3_ := Aside0.mk (Kd.C_below HC0.out hb_); clear HB; clear HC9; clear HC10; clear HC0; have HB := n0_; have HC9 := n1_; have HC10 := n2_; have HC0 := n3_; clear n0_ n1_ n2_ n3_; clear hb_ hr_
  clear e0_ e1_ e2_ e3_ e4_ e5_ e6_ e7_ e8_ e9_ e10_
  go_upto_region 3 with fail
  have e0_ := (blk_cell BK2.out 0).trans (rfl : _ = some (.int .i64 k : Value))
  have e1_ := (blk_cell BK2.out 1).trans (rfl : _ = some (.int .i64 tk : Value))
  have e2_ := (blk_cell BK2.out 2).trans (rfl : _ = some (.int .i64 ep : Value))
  have e3_ := (blk_cell BK2.out 3).trans (rfl : _ = some (.int .i64 tx : Value))
  have e4_ := (blk_cell BK2.out 4).trans (rfl : _ = some (.int .i64 lg : Value))
  have e5_ := (blk_cell BK2.out 5).trans (rfl : _ = some (.int .i64 ky : Value))
  have e6_ := (blk_cell BK2.out 6).trans (rfl : _ = some (.int .i64 vl : Value))
  have e7_ := (blk_cell BK2.out 7).trans (rfl : _ = some (.int .i64 tm : Value))
  have e8_ := (blk_cell BK2.out 8).trans (rfl : _ = some (.bool dl : Value))
  have e9_ := (blk_cell BK2.out 9).trans (rfl : _ = some (.slice A9 n9 c9 : Value))
  have e10_ := (blk_cell BK2.out 10).trans (rfl : _ = some (.slice A10 n10 c10 : Value))

  go_wp2_with fail
  refine (ref_entry ⟨k, tk, ep, tx, lg, ky, vl, tm, dl, l9, l10⟩ HX.out A9 n9 c9 A10 n10 c10 _ H9.out H10.out HN9.out HN10.out HC9.out HL9.out HC10.out HL10.out _ HP.out).mono ?_
  rintro e w4 ⟨v2, rfl, hr_, hb_⟩
  have HV2 := Aside0.mk hr_
  replace BK2 := Aside0.mk (blk_below BK2.out hb_)
  have n0_ := Aside0.mk (below_step HB.out hb_); have n1_ := Aside0.mk (Kd.R_below HV1.out hb_); have n2_ := Aside0.mk (Kd.C_below HC9.out hb_); have n3_ := Aside0.mk (Kd.C_below HC10.out hb_); have n4_ := Aside0.mk (Kd.C_below HC0.out hb_); clear HB; clear HV1; clear HC9; clear HC10; clear HC0; have HB := n0_; have HV1 := n1_; have HC9 := n2_; have HC10 := n3_; have HC0 := n4_; clear n0_ n1_ n2_ n3_ n4_; clear hb_ hr_
  clear e0_ e1_ e2_ e3_ e4_ e5_ e6_ e7_ e8_ e9_ e10_
  go_wp2_with fail
  refine (toEnt_any A0 c0 n0 l0 _ _ HN0.out HC0.out HL0.out HBY.out HQ.out).mono ?_
  rintro e w5 ⟨B9, d9, B10, d10, rfl, hx9_, hx10_, hb_⟩
  simp only at hx9_ hx10_
  have HX9 := Aside0.mk hx9_
  have HX10 := Aside0.mk hx10_
  replace BK2 := Aside0.mk (blk_below BK2.out hb_)
  have n0_ := Aside0.mk (below_step HB.out hb_); have n1_ := Aside0.mk (Kd.R_below HV1.out hb_); have n2_ := Aside0.mk (Kd.R_below HV2.out hb_); have n3_ := Aside0.mk (Kd.C_below HC9.out hb_); have n4_ := Aside0.mk (Kd.C_below HC10.out hb_); have n5_ := Aside0.mk (Kd.C_below HC0.out hb_); clear HB; clear HV1; clear HV2; clear HC9; clear HC10; clear HC0; have HB := n0_; have HV1 := n1_; have HV2 := n2_; have HC9 := n3_; have HC10 := n4_; have HC0 := n5_; clear n0_ n1_ n2_ n3_ n4_ n5_; clear hb_ hx9_ hx10_
  go_upto_region 5 with fail
  have BK10 := Aside0.mk (heap_alloc_new w5 (.cells #[.int .i64 a0, .int .i64 a1, .int .i64 a2, .int .i64 a3, .int .i64 a4, .int .i64 a5, .int .i64 a6, .int .i64 a7, .bool a8, .slice B9 m9.length d9, .slice B10 m10.length d10] 26))
  have hb_ := below_alloc (Below.refl w5.heap.size w5) (.cells #[.int .i64 a0, .int .i64 a1, .int .i64 a2, .int .i64 a3, .int .i64 a4, .int .i64 a5, .int .i64 a6, .int .i64 a7, .bool a8, .slice B9 m9.length d9, .slice B10 m10.length d10] 26)
  generalize w5.alloc (.cells #[.int .i64 a0, .int .i64 a1, .int .i64 a2, .int .i64 a3, .int .i64 a4, .int .i64 a5, .int .i64 a6, .int .i64 a7, .bool a8, .slice B9 m9.length d9, .slice B10 m10.length d10] 26) = w6 at BK10 hb_ ⊢
  generalize w5.heap.size = g10 at BK10 ⊢
  replace BK2 := Aside0.mk (blk_below BK2.out hb_)
  replace HX9 := Aside0.mk (And.intro HX9.out.1 (Kd.C_below HX9.out.2 hb_))
  replace HX10 := Aside0.mk (And.intro HX10.out.1 (Kd.C_below HX10.out.2 hb_))
  have n0_ := Aside0.mk (below_step HB.out hb_); have n1_ := Aside0.mk (Kd.R_below HV1.out hb_); have n2_ := Aside0.mk (Kd.R_below HV2.out hb_); have n3_ := Aside0.mk (Kd.C_below HC9.out hb_); have n4_ := Aside0.mk (Kd.C_below HC10.out hb_); have n5_ := Aside0.mk (Kd.C_below HC0.out hb_); clear HB; clear HV1; clear HV2; clear HC9; clear HC10; clear HC0; have HB := n0_; have HV1 := n1_; have HV2 := n2_; have HC9 := n3_; have HC10 := n4_; have HC0 := n5_; clear n0_ n1_ n2_ n3_ n4_ n5_; clear hb_
  go_wp2_with fail
  refine (refEnt_any A0 c0 n0 l0 _ _ HN0.out HC0.out HD0.out HBY.out HQ.out).mono ?_
  rintro e w7 ⟨D9, f9, D10, f10, rfl, hx9_, hx10_, hb_⟩
  simp only at hx9_ hx10_
  have HY9 := Aside0.mk hx9_
  have HY10 := Aside0.mk hx10_
  replace BK2 := Aside0.mk (blk_below BK2.out hb_)
  replace BK10 := Aside0.mk (blk_below BK10.out hb_)
  replace HX9 := Aside0.mk (And.intro HX9.out.1 (Kd.C_below HX9.out.2 hb_))
  replace HX10 := Aside0.mk (And.intro HX10.out.1 (Kd.C_below HX10.out.2 hb_))
  have n0_ := Aside0.mk (below_step HB.out hb_); have n1_ := Aside0.mk (Kd.R_below HV1.out hb_); have n2_ := Aside0.mk (Kd.R_below HV2.out hb_); have n3_ := Aside0.mk (Kd.C_below HC9.out hb_); have n4_ := Aside0.mk (Kd.C_below HC10.out hb_); clear HB; clear HV1; clear HV2; clear HC9; clear HC10; have HB := n0_; have HV1 := n1_; have HV2 := n2_; have HC9 := n3_; have HC10 := n4_; clear n0_ n1_ n2_ n3_ n4_; clear hb_ hx9_ hx10_
  go_upto_region 6 with fail
  have BK12 := Aside0.mk (heap_alloc_new w7 (.cells #[.int .i64 a0, .int .i64 a1, .int .i64 a2, .int .i64 a3, .int .i64 a4, .int .i64 a5, .int .i64 a6, .int .i64 a7, .bool a8, .slice D9 m9.length f9, .slice D10 m10.length f10] 26))
  have hb_ := below_alloc (Below.refl w7.heap.size w7) (.cells #[.int .i64 a0, .int .i64 a1, .int .i64 a2, .int .i64 a3, .int .i64 a4, .int .i64 a5, .int .i64 a6, .int .i64 a7, .bool a8, .slice D9 m9.length f9, .slice D10 m10.length f10] 26)
  generalize w7.alloc (.cells #[.int .i64 a0, .int .i64 a1, .int .i64 a2, .int .i64 a3, .int .i64 a4, .int .i64 a5, .int .i64 a6, .int .i64 a7, .bool a8, .slice D9 m9.length f9, .slice D10 m10.length f10] 26) = w7b at BK12 hb_ ⊢
  generalize w7.heap.size = g12 at BK12 ⊢
  replace BK2 := Aside0.mk (blk_below BK2.out hb_)
  replace BK10 := Aside0.mk (blk_below BK10.out hb_)
  replace HX9 := Aside0.mk (And.intro HX9.out.1 (Kd.C_below HX9.out.2 hb_))
  replace HX10 := Aside0.mk (And.intro HX10.out.1 (Kd.C_below HX10.out.2 hb_))
  replace HY9 := Aside0.mk (And.intro HY9.out.1 (Kd.C_below HY9.out.2 hb_))
  replace HY10 := Aside0.mk (And.intro HY10.out.1 (Kd.C_below HY10.out.2 hb_))
  have n0_ := Aside0.mk (below_step HB.out hb_); have n1_ := Aside0.mk (Kd.R_below HV1.out hb_); have n2_ := Aside0.mk (Kd.R_below HV2.out hb_); have n3_ := Aside0.mk (Kd.C_below HC9.out hb_); have n4_ := Aside0.mk (Kd.C_below HC10.out hb_); clear HB; clear HV1; clear HV2; clear HC9; clear HC10; have HB := n0_; have HV1 := n1_; have HV2 := n2_; have HC9 := n3_; have HC10 := n4_; clear n0_ n1_ n2_ n3_ n4_; clear hb_
  have e0_ := (blk_cell BK10.out 0).trans (rfl : _ = some (.int .i64 a0 : Value))
  have e1_ := (blk_cell BK10.out 1).trans (rfl : _ = some (.int .i64 a1 : Value))
  have e2_ := (blk_cell BK10.out 2).trans (rfl : _ = some (.int .i64 a2 : Value))
  have e3_ := (blk_cell BK10.out 3).trans (rfl : _ = some (.int .i64 a3 : Value))
  have e4_ := (blk_cell BK10.out 4).trans (rfl : _ = some (.int .i64 a4 : Value))
  have e5_ := (blk_cell BK10.out 5).trans (rfl : _ = some (.int .i64 a5 : Value))
  have e6_ := (blk_cell BK10.out 6).trans (rfl : _ = some (.int .i64 a6 : Value))
  have e7_ := (blk_cell BK10.out 7).trans (rfl : _ = some (.int .i64 a7 : Value))
  have e8_ := (blk_cell BK10.out 8).trans (rfl : _ = some (.bool a8 : Value))
  have e9_ := (blk_cell BK10.out 9).trans (rfl : _ = some (.slice B9 m9.length d9 : Value))
  have e10_ := (blk_cell BK10.out 10).trans (rfl : _ = some (.slice B10 m10.length d10 : Value))

  have k0_ := (blk_cell BK12.out 0).trans (rfl : _ = some (.int .i64 a0 : Value))
  have k1_ := (blk_cell BK12.out 1).trans (rfl : _ = some (.int .i64 a1 : Value))
  have k2_ := (blk_cell BK12.out 2).trans (rfl : _ = some (.int .i64 a2 : Value))
  have k3_ := (blk_cell BK12.out 3).trans (rfl : _ = some (.int .i64 a3 : Value))
  have k4_ := (blk_cell BK12.out 4).trans (rfl : _ = some (.int .i64 a4 : Value))
  have k5_ := (blk_cell BK12.out 5).trans (rfl : _ = some (.int .i64 a5 : Value))
  have k6_ := (blk_cell BK12.out 6).trans (rfl : _ = some (.int .i64 a6 : Value))
  have k7_ := (blk_cell BK12.out 7).trans (rfl : _ = some (.int .i64 a7 : Value))
  have k8_ := (blk_cell BK12.out 8).trans (rfl : _ = some (.bool a8 : Value))
  have k9_ := (blk_cell BK12.out 9).trans (rfl : _ = some (.slice D9 m9.length f9 : Value))
  have k10_ := (blk_cell BK12.out 10).trans (rfl : _ = some (.slice D10 m10.length f10 : Value))

  go_wp2_with fail
  refine (same_at a0 a1 a2 a3 a4 a5 a6 a7 a8 m9 m10 HSH.out.1 HSH.out.2 B9 d9 B10 d10 D9 f9 D10 f10 _ HX9.out HX10.out HY9.out HY10.out).mono ?_
  rintro e w8 ⟨rfl, hb_⟩
  clear e0_ e1_ e2_ e3_ e4_ e5_ e6_ e7_ e8_ e9_ e10_
  clear k0_ k1_ k2_ k3_ k4_ k5_ k6_ k7_ k8_ k9_ k10_
  clear BK10 BK12 HX9 HX10 HY9 HY10
  replace BK2 := Aside0.mk (blk_below BK2.out hb_)
  have n0_ := Aside0.mk (below_step HB.out hb_); have n1_ := Aside0.mk (Kd.R_below HV1.out hb_); have n2_ := Aside0.mk (Kd.R_below HV2.out hb_); have n3_ := Aside0.mk (Kd.C_below HC9.out hb_); have n4_ := Aside0.mk (Kd.C_below HC10.out hb_); clear HB; clear HV1; clear HV2; clear HC9; clear HC10; have HB := n0_; have HV1 := n1_; have HV2 := n2_; have HC9 := n3_; have HC10 := n4_; clear n0_ n1_ n2_ n3_ n4_; clear hb_
  go_upto_region 7 with fail
  refine start_ (n := 29) (S := fun w' => Below w8.heap.size w8 w') (ds := []) #[false, false, false, false, false, false, false, false, false, false, false, false, false, false, false, false, false, false, false, false, false, false, false, false, false, false, false, false, false] (by kernel_rfl) rfl rfl (below_drew (Below.refl _ _)) (fun hHeld => ?_)
  refine pure_ (i := 0) (N := some 39) (v := ?_) (a' := ?_) #[true, false, false, false, false, false, false, false, false, false, false, false, false, false, false, false, false, false, false, false, false, false, false, false, false, false, false, false, false] rfl rfl (by kernel_rfl) (fun _ _ _ h => h) (Or.inl ⟨by rfl, ?_⟩) ?_ ?_
  rotate_left
  · intro w'
    go_simp
    with_reducible rfl
  rotate_left
  · simp only [Act.put, List.setIfInBounds_toArray, List.set_cons_zero, List.set_cons_succ, i64_w, i32_w]
    rfl
  refine pure_ (i := 1) (N := some 40) (v := ?_) (a' := ?_) #[true, true, false, false, false, false, false, false, false, false, false, false, false, false, false, false, false, false, false, false, false, false, false, false, false, false, false, false, false] rfl rfl (by kernel_rfl) (fun _ _ _ h => h) (Or.inl ⟨by rfl, ?_⟩) ?_ ?_
  rotate_left
  · intro w'
    go_simp
    with_reducible rfl
  rotate_left
  · simp only [Act.put, List.setIfInBounds_toArray, List.set_cons_zero, List.set_cons_succ, i64_w, i32_w]
    rfl
  refine take_ (i := 2) (N := some 41) (v := ?_) (a' := ?_) #[true, true, true, false, false, false, false, false, false, false, false, false, false, false, false, false, false, false, false, false, false, false, false, false, false, false, false, false, false] rfl rfl (by kernel_rfl) (fun _ _ _ h => h) (Or.inl ⟨by rfl, ?_⟩) hHeld ?_ ?_
  rotate_left
  · intro w' hS
    have e0_ := (blk_cell (blk_below BK2.out hS) 0).trans (rfl : _ = some (.int .i64 k : Value))
    have e1_ := (blk_cell (blk_below BK2.out hS) 1).trans (rfl : _ = some (.int .i64 tk : Value))
    have e2_ := (blk_cell (blk_below BK2.out hS) 2).trans (rfl : _ = some (.int .i64 ep : Value))
    have e3_ := (blk_cell (blk_below BK2.out hS) 3).trans (rfl : _ = some (.int .i64 tx : Value))
    have e4_ := (blk_cell (blk_below BK2.out hS) 4).trans (rfl : _ = some (.int .i64 lg : Value))
    have e5_ := (blk_cell (blk_below BK2.out hS) 5).trans (rfl : _ = some (.int .i64 ky : Value))
    have e6_ := (blk_cell (blk_below BK2.out hS) 6).trans (rfl : _ = some (.int .i64 vl : Value))
    have e7_ := (blk_cell (blk_below BK2.out hS) 7).trans (rfl : _ = some (.int .i64 tm : Value))
    have e8_ := (blk_cell (blk_below BK2.out hS) 8).trans (rfl : _ = some (.bool dl : Value))
    have e9_ := (blk_cell (blk_below BK2.out hS) 9).trans (rfl : _ = some (.slice A9 n9 c9 : Value))
    have e10_ := (blk_cell (blk_below BK2.out hS) 10).trans (rfl : _ = some (.slice A10 n10 c10 : Value))
    go_simp
    with_reducible rfl
  rotate_left
  · simp only [Act.put, List.setIfInBounds_toArray, List.set_cons_zero, List.set_cons_succ, i64_w, i32_w]
    rfl
  refine take_ (i := 4) (N := some 43) (v := ?_) (a' := ?_) #[true, true, true, false, true, false, false, false, false, false, false, false, false, false, false, false, false, false, false, false, false, false, false, false, false, false, false, false, false] rfl rfl (by kernel_rfl) (fun _ _ _ h => h) (Or.inl ⟨by rfl, ?_⟩) hHeld ?_ ?_
  rotate_left
  · intro w' hS
    have e0_ := (blk_cell (blk_below BK2.out hS) 0).trans (rfl : _ = some (.int .i64 k : Value))
    have e1_ := (blk_cell (blk_below BK2.out hS) 1).trans (rfl : _ = some (.int .i64 tk : Value))
    have e2_ := (blk_cell (blk_below BK2.out hS) 2).trans (rfl : _ = some (.int .i64 ep : Value))
    have e3_ := (blk_cell (blk_below BK2.out hS) 3).trans (rfl : _ = some (.int .i64 tx : Value))
    have e4_ := (blk_cell (blk_below BK2.out hS) 4).trans (rfl : _ = some (.int .i64 lg : Value))
    have e5_ := (blk_cell (blk_below BK2.out hS) 5).trans (rfl : _ = some (.int .i64 ky : Value))
    have e6_ := (blk_cell (blk_below BK2.out hS) 6).trans (rfl : _ = some (.int .i64 vl : Value))
    have e7_ := (blk_cell (blk_below BK2.out hS) 7).trans (rfl : _ = some (.int .i64 tm : Value))
    have e8_ := (blk_cell (blk_below BK2.out hS) 8).trans (rfl : _ = some (.bool dl : Value))
    have e9_ := (blk_cell (blk_below BK2.out hS) 9).trans (rfl : _ = some (.slice A9 n9 c9 : Value))
    have e10_ := (blk_cell (blk_below BK2.out hS) 10).trans (rfl : _ = some (.slice A10 n10 c10 : Value))
    go_simp
    with_reducible rfl
  rotate_left
  · simp only [Act.put, List.setIfInBounds_toArray, List.set_cons_zero, List.set_cons_succ, i64_w, i32_w]
    rfl
  refine one_ (i := 3) (N := some 42) #[true, true, true, true, true, false, false, false, false, false, false, false, false, false, false, false, false, false, false, false, false, false, false, false, false, false, false, false, false] rfl rfl (by kernel_rfl) (by simp) (fun K hK => ?_)
  refine goes_ Try.func10 (by kernel_rfl) rfl #[.agg #[.int .i64 k, .int .i64 tk, .int .i64 ep, .int .i64 tx, .int .i64 lg, .int .i64 ky, .int .i64 vl, .int .i64 tm, .bool dl, .slice A9 n9 c9, .slice A10 n10 c10]] (by rfl) rfl rfl (by simp only [List.map_toArray, List.map_cons, List.map_nil]; rfl) ?_
  with_reducible refine (rec_may_at ⟨k, tk, ep, tx, lg, ky, vl, tm, dl, l9, l10⟩ A9 n9 c9 A10 n10 c10 _ H9.out H10.out (Kd.C_below HC9.out (below_drew (Below.refl _ _))) HL9.out (Kd.C_below HC10.out (below_drew (Below.refl _ _))) HL10.out tb HTB.out).mono ?_
  rintro e w9 ⟨rfl, hb_⟩
  refine ⟨_, rfl, ?_⟩
  replace hb_ := below_step hHeld hb_
  refine hK.out _ _ hb_ (fun _ => ?_)
  clear hK K hHeld
  refine norm_ (a' := ?_) ?_ ?_
  rotate_left
  · show Act.put _ (some 42) _ = _
    simp only [Act.put, List.setIfInBounds_toArray, List.set_cons_zero, List.set_cons_succ, i64_w, i32_w]
    rfl
  refine stronger_ (S' := fun w' => Below w9.heap.size w9 w') (fun w' h => below_step hb_ h) (Below.refl _ _) ?_
  have hHeld := Below.refl w9.heap.size w9
  replace BK2 := Aside0.mk (blk_below BK2.out hb_)
  have n0_ := Aside0.mk (below_step HB.out hb_); have n1_ := Aside0.mk (Kd.R_below HV1.out hb_); have n2_ := Aside0.mk (Kd.R_below HV2.out hb_); have n3_ := Aside0.mk (Kd.C_below HC9.out hb_); have n4_ := Aside0.mk (Kd.C_below HC10.out hb_); clear HB; clear HV1; clear HV2; clear HC9; clear HC10; have HB := n0_; have HV1 := n1_; have HV2 := n2_; have HC9 := n3_; have HC10 := n4_; clear n0_ n1_ n2_ n3_ n4_
  clear hb_
  refine one_ (i := 5) (N := some 44) #[true, true, true, true, true, true, false, false, false, false, false, false, false, false, false, false, false, false, false, false, false, false, false, false, false, false, false, false, false] rfl rfl (by kernel_rfl) (by simp) (fun K hK => ?_)
  refine goes_ Try.func20 (by kernel_rfl) rfl #[.agg #[.int .i64 k, .int .i64 tk, .int .i64 ep, .int .i64 tx, .int .i64 lg, .int .i64 ky, .int .i64 vl, .int .i64 tm, .bool dl, .slice A9 n9 c9, .slice A10 n10 c10]] (by rfl) rfl rfl (by simp only [List.map_toArray, List.map_cons, List.map_nil]; rfl) ?_
  with_reducible refine (ref_may_at ⟨k, tk, ep, tx, lg, ky, vl, tm, dl, l9, l10⟩ A9 n9 c9 A10 n10 c10 _ H9.out H10.out HN9.out HN10.out HC9.out HL9.out HC10.out HL10.out tb HTB.out).mono ?_
  rintro e w10 ⟨rfl, hb_⟩
  refine ⟨_, rfl, ?_⟩
  replace hb_ := below_step hHeld hb_
  refine hK.out _ _ hb_ (fun _ => ?_)
  clear hK K hHeld
  refine norm_ (a' := ?_) ?_ ?_
  rotate_left
  · show Act.put _ (some 44) _ = _
    simp only [Act.put, List.setIfInBounds_toArray, List.set_cons_zero, List.set_cons_succ, i64_w, i32_w]
    rfl
  refine stronger_ (S' := fun w' => Below w10.heap.size w10 w') (fun w' h => below_step hb_ h) (Below.refl _ _) ?_
  have hHeld := Below.refl w10.heap.size w10
  replace BK2 := Aside0.mk (blk_below BK2.out hb_)
  have n0_ := Aside0.mk (below_step HB.out hb_); have n1_ := Aside0.mk (Kd.R_below HV1.out hb_); have n2_ := Aside0.mk (Kd.R_below HV2.out hb_); have n3_ := Aside0.mk (Kd.C_below HC9.out hb_); have n4_ := Aside0.mk (Kd.C_below HC10.out hb_); clear HB; clear HV1; clear HV2; clear HC9; clear HC10; have HB := n0_; have HV1 := n1_; have HV2 := n2_; have HC9 := n3_; have HC10 := n4_; clear n0_ n1_ n2_ n3_ n4_
  clear hb_
  refine pure_ (i := 6) (N := some 45) (v := ?_) (a' := ?_) #[true, true, true, true, true, true, true, false, false, false, false, false, false, false, false, false, false, false, false, false, false, false, false, false, false, false, false, false, false] rfl rfl (by kernel_rfl) (fun _ _ _ h => h) (Or.inl ⟨by rfl, ?_⟩) ?_ ?_
  rotate_left
  · intro w'
    go_simp
    (try simp only [beq_self_eq_true, decide_true])
    with_reducible rfl
  rotate_left
  · simp only [Act.put, List.setIfInBounds_toArray, List.set_cons_zero, List.set_cons_succ, i64_w, i32_w]
    rfl
  refine pure_ (i := 7) (N := some 46) (v := ?_) (a' := ?_) #[true, true, true, true, true, true, true, true, false, false, false, false, false, false, false, false, false, false, false, false, false, false, false, false, false, false, false, false, false] rfl rfl (by kernel_rfl) (fun _ _ _ h => h) (Or.inl ⟨by rfl, ?_⟩) ?_ ?_
  rotate_left
  · intro w'
    go_simp
    with_reducible rfl
  rotate_left
  · simp only [Act.put, List.setIfInBounds_toArray, List.set_cons_zero, List.set_cons_succ, i64_w, i32_w]
    rfl
  refine pure_ (i := 8) (N := some 47) (v := ?_) (a' := ?_) #[true, true, true, true, true, true, true, true, true, false, false, false, false, false, false, false, false, false, false, false, false, false, false, false, false, false, false, false, false] rfl rfl (by kernel_rfl) (fun _ _ _ h => h) (Or.inl ⟨by rfl, ?_⟩) ?_ ?_
  rotate_left
  · intro w'
    go_simp
    with_reducible rfl
  rotate_left
  · simp only [Act.put, List.setIfInBounds_toArray, List.set_cons_zero, List.set_cons_succ, i64_w, i32_w]
    rfl
  refine pure_ (i := 9) (N := some 48) (v := ?_) (a' := ?_) #[true, true, true, true, true, true, true, true, true, true, false, false, false, false, false, false, false, false, false, false, false, false, false, false, false, false, false, false, false] rfl rfl (by kernel_rfl) (fun _ _ _ h => h) (Or.inl ⟨by rfl, ?_⟩) ?_ ?_
  rotate_left
  · intro w'
    go_simp
    with_reducible rfl
  rotate_left
  · simp only [Act.put, List.setIfInBounds_toArray, List.set_cons_zero, List.set_cons_succ, i64_w, i32_w]
    rfl
  refine pure_ (i := 11) (N := some 50) (v := ?_) (a' := ?_) #[true, true, true, true, true, true, true, true, true, true, false, true, false, false, false, false, false, false, false, false, false, false, false, false, false, false, false, false, false] rfl rfl (by kernel_rfl) (fun _ _ _ h => h) (Or.inl ⟨by rfl, ?_⟩) ?_ ?_
  rotate_left
  · intro w'
    go_simp
    with_reducible rfl
  rotate_left
  · simp only [Act.put, List.setIfInBounds_toArray, List.set_cons_zero, List.set_cons_succ, i64_w, i32_w]
    rfl
  refine take_ (i := 10) (N := some 49) (v := ?_) (a' := ?_) #[true, true, true, true, true, true, true, true, true, true, true, true, false, false, false, false, false, false, false, false, false, false, false, false, false, false, false, false, false] rfl rfl (by kernel_rfl) (fun _ _ _ h => h) (Or.inl ⟨by rfl, ?_⟩) hHeld ?_ ?_
  rotate_left
  · intro w' hS
    have e_ := R_str (Kd.R_below HV1.out hS)
    go_simp
    with_reducible rfl
  rotate_left
  · simp only [Act.put, List.setIfInBounds_toArray, List.set_cons_zero, List.set_cons_succ, i64_w, i32_w]
    rfl
  refine take_ (i := 12) (N := some 51) (v := ?_) (a' := ?_) #[true, true, true, true, true, true, true, true, true, true, true, true, true, false, false, false, false, false, false, false, false, false, false, false, false, false, false, false, false] rfl rfl (by kernel_rfl) (fun _ _ _ h => h) (Or.inl ⟨by rfl, ?_⟩) hHeld ?_ ?_
  rotate_left
  · intro w' hS
    have e_ := R_str (Kd.R_below HV2.out hS)
    go_simp
    with_reducible rfl
  rotate_left
  · simp only [Act.put, List.setIfInBounds_toArray, List.set_cons_zero, List.set_cons_succ, i64_w, i32_w]
    rfl
  refine pure_ (i := 13) (N := some 52) (v := ?_) (a' := ?_) #[true, true, true, true, true, true, true, true, true, true, true, true, true, true, false, false, false, false, false, false, false, false, false, false, false, false, false, false, false] rfl rfl (by kernel_rfl) (fun _ _ _ h => h) (Or.inl ⟨by rfl, ?_⟩) ?_ ?_
  rotate_left
  · intro w'
    go_simp
    (try simp only [beq_self_eq_true, decide_true])
    with_reducible rfl
  rotate_left
  · simp only [Act.put, List.setIfInBounds_toArray, List.set_cons_zero, List.set_cons_succ, i64_w, i32_w]
    rfl
  refine pure_ (i := 14) (N := some 53) (v := ?_) (a' := ?_) #[true, true, true, true, true, true, true, true, true, true, true, true, true, true, true, false, false, false, false, false, false, false, false, false, false, false, false, false, false] rfl rfl (by kernel_rfl) (fun _ _ _ h => h) (Or.inl ⟨by rfl, ?_⟩) ?_ ?_
  rotate_left
  · intro w'
    go_simp
    with_reducible rfl
  rotate_left
  · simp only [Act.put, List.setIfInBounds_toArray, List.set_cons_zero, List.set_cons_succ, i64_w, i32_w]
    rfl
  refine pure_ (i := 15) (N := some 54) (v := ?_) (a' := ?_) #[true, true, true, true, true, true, true, true, true, true, true, true, true, true, true, true, false, false, false, false, false, false, false, false, false, false, false, false, false] rfl rfl (by kernel_rfl) (fun _ _ _ h => h) (Or.inl ⟨by rfl, ?_⟩) ?_ ?_
  rotate_left
  · intro w'
    go_simp
    with_reducible rfl
  rotate_left
  · simp only [Act.put, List.setIfInBounds_toArray, List.set_cons_zero, List.set_cons_succ, i64_w, i32_w]
    rfl
  refine pure_ (i := 16) (N := some 55) (v := ?_) (a' := ?_) #[true, true, true, true, true, true, true, true, true, true, true, true, true, true, true, true, true, false, false, false, false, false, false, false, false, false, false, false, false] rfl rfl (by kernel_rfl) (fun _ _ _ h => h) (Or.inl ⟨by rfl, ?_⟩) ?_ ?_
  rotate_left
  · intro w'
    go_simp
    with_reducible rfl
  rotate_left
  · simp only [Act.put, List.setIfInBounds_toArray, List.set_cons_zero, List.set_cons_succ, i64_w, i32_w]
    rfl
  refine pure_ (i := 17) (N := some 56) (v := ?_) (a' := ?_) #[true, true, true, true, true, true, true, true, true, true, true, true, true, true, true, true, true, true, false, false, false, false, false, false, false, false, false, false, false] rfl rfl (by kernel_rfl) (fun _ _ _ h => h) (Or.inl ⟨by rfl, ?_⟩) ?_ ?_
  rotate_left
  · intro w'
    go_simp
    with_reducible rfl
  rotate_left
  · simp only [Act.put, List.setIfInBounds_toArray, List.set_cons_zero, List.set_cons_succ, i64_w, i32_w]
    rfl
  refine pure_ (i := 18) (N := some 57) (v := ?_) (a' := ?_) #[true, true, true, true, true, true, true, true, true, true, true, true, true, true, true, true, true, true, true, false, false, false, false, false, false, false, false, false, false] rfl rfl (by kernel_rfl) (fun _ _ _ h => h) (Or.inl ⟨by rfl, ?_⟩) ?_ ?_
  rotate_left
  · intro w'
    go_simp
    (try simp only [beq_self_eq_true, decide_true])
    with_reducible rfl
  rotate_left
  · simp only [Act.put, List.setIfInBounds_toArray, List.set_cons_zero, List.set_cons_succ, i64_w, i32_w]
    rfl
  refine pure_ (i := 19) (N := some 58) (v := ?_) (a' := ?_) #[true, true, true, true, true, true, true, true, true, true, true, true, true, true, true, true, true, true, true, true, false, false, false, false, false, false, false, false, false] rfl rfl (by kernel_rfl) (fun _ _ _ h => h) (Or.inl ⟨by rfl, ?_⟩) ?_ ?_
  rotate_left
  · intro w'
    go_simp
    with_reducible rfl
  rotate_left
  · simp only [Act.put, List.setIfInBounds_toArray, List.set_cons_zero, List.set_cons_succ, i64_w, i32_w]
    rfl
  refine pure_ (i := 20) (N := some 59) (v := ?_) (a' := ?_) #[true, true, true, true, true, true, true, true, true, true, true, true, true, true, true, true, true, true, true, true, true, false, false, false, false, false, false, false, false] rfl rfl (by kernel_rfl) (fun _ _ _ h => h) (Or.inl ⟨by rfl, ?_⟩) ?_ ?_
  rotate_left
  · intro w'
    go_simp
    with_reducible rfl
  rotate_left
  · simp only [Act.put, List.setIfInBounds_toArray, List.set_cons_zero, List.set_cons_succ, i64_w, i32_w]
    rfl
  refine pure_ (i := 21) (N := some 60) (v := ?_) (a' := ?_) #[true, true, true, true, true, true, true, true, true, true, true, true, true, true, true, true, true, true, true, true, true, true, false, false, false, false, false, false, false] rfl rfl (by kernel_rfl) (fun _ _ _ h => h) (Or.inl ⟨by rfl, ?_⟩) ?_ ?_
  rotate_left
  · intro w'
    go_simp
    with_reducible rfl
  rotate_left
  · simp only [Act.put, List.setIfInBounds_toArray, List.set_cons_zero, List.set_cons_succ, i64_w, i32_w]
    rfl
  refine pure_ (i := 22) (N := some 61) (v := ?_) (a' := ?_) #[true, true, true, true, true, true, true, true, true, true, true, true, true, true, true, true, true, true, true, true, true, true, true, false, false, false, false, false, false] rfl rfl (by kernel_rfl) (fun _ _ _ h => h) (Or.inl ⟨by rfl, ?_⟩) ?_ ?_
  rotate_left
  · intro w'
    go_simp
    with_reducible rfl
  rotate_left
  · simp only [Act.put, List.setIfInBounds_toArray, List.set_cons_zero, List.set_cons_succ, i64_w, i32_w]
    rfl
  refine pure_ (i := 23) (N := some 62) (v := ?_) (a' := ?_) #[true, true, true, true, true, true, true, true, true, true, true, true, true, true, true, true, true, true, true, true, true, true, true, true, false, false, false, false, false] rfl rfl (by kernel_rfl) (fun _ _ _ h => h) (Or.inl ⟨by rfl, ?_⟩) ?_ ?_
  rotate_left
  · intro w'
    go_simp
    with_reducible rfl
  rotate_left
  · simp only [Act.put, List.setIfInBounds_toArray, List.set_cons_zero, List.set_cons_succ, i64_w, i32_w]
    rfl
  refine pure_ (i := 24) (N := some 63) (v := ?_) (a' := ?_) #[true, true, true, true, true, true, true, true, true, true, true, true, true, true, true, true, true, true, true, true, true, true, true, true, true, false, false, false, false] rfl rfl (by kernel_rfl) (fun _ _ _ h => h) (Or.inl ⟨by rfl, ?_⟩) ?_ ?_
  rotate_left
  · intro w'
    go_simp
    with_reducible rfl
  rotate_left
  · simp only [Act.put, List.setIfInBounds_toArray, List.set_cons_zero, List.set_cons_succ, i64_w, i32_w]
    rfl
  refine pure_ (i := 25) (N := some 64) (v := ?_) (a' := ?_) #[true, true, true, true, true, true, true, true, true, true, true, true, true, true, true, true, true, true, true, true, true, true, true, true, true, true, false, false, false] rfl rfl (by kernel_rfl) (fun _ _ _ h => h) (Or.inl ⟨by rfl, ?_⟩) ?_ ?_
  rotate_left
  · intro w'
    go_simp
    with_reducible rfl
  rotate_left
  · simp only [Act.put, List.setIfInBounds_toArray, List.set_cons_zero, List.set_cons_succ, i64_w, i32_w]
    rfl
  refine pure_ (i := 26) (N := some 65) (v := ?_) (a' := ?_) #[true, true, true, true, true, true, true, true, true, true, true, true, true, true, true, true, true, true, true, true, true, true, true, true, true, true, true, false, false] rfl rfl (by kernel_rfl) (fun _ _ _ h => h) (Or.inl ⟨by rfl, ?_⟩) ?_ ?_
  rotate_left
  · intro w'
    go_simp
    (try simp only [beq_self_eq_true, decide_true])
    with_reducible rfl
  rotate_left
  · simp only [Act.put, List.setIfInBounds_toArray, List.set_cons_zero, List.set_cons_succ, i64_w, i32_w]
    rfl
  refine pure_ (i := 27) (N := some 66) (v := ?_) (a' := ?_) #[true, true, true, true, true, true, true, true, true, true, true, true, true, true, true, true, true, true, true, true, true, true, true, true, true, true, true, true, false] rfl rfl (by kernel_rfl) (fun _ _ _ h => h) (Or.inl ⟨by rfl, ?_⟩) ?_ ?_
  rotate_left
  · intro w'
    go_simp
    with_reducible rfl
  rotate_left
  · simp only [Act.put, List.setIfInBounds_toArray, List.set_cons_zero, List.set_cons_succ, i64_w, i32_w]
    rfl
  refine pure_ (i := 28) (N := some 4) (v := ?_) (a' := ?_) #[true, true, true, true, true, true, true, true, true, true, true, true, true, true, true, true, true, true, true, true, true, true, true, true, true, true, true, true, true] rfl rfl (by kernel_rfl) (fun _ _ _ h => h) (Or.inl ⟨by rfl, ?_⟩) ?_ ?_
  rotate_left
  · intro w'
    go_simp
    with_reducible rfl
  rotate_left
  · simp only [Act.put, List.setIfInBounds_toArray, List.set_cons_zero, List.set_cons_succ, i64_w, i32_w]
    rfl
  refine done_ (by kernel_rfl) ?_

  go_wp2
  go_ret
  exact ⟨rfl, HB.out⟩
theorem wfe_u8 {n : Int} (h : (Lit.int .u8 n).wf = true) : 0 ≤ n ∧ n < 256 := by
  simp [Lit.wf, IntKind.min, IntKind.max, IntKind.bits, IntKind.signed] at h
  omega
end Go.Proofs.Ytedbgkbjbfdnlaa.Rc
