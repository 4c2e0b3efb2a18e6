/- The statement RecBack. -/
import Derived.Test.YtedbgkbjbfdnlaaRcBkP
import Derived.Test.YtedbgkbjbfdnlaaRcOnes
namespace Go.Proofs.Ytedbgkbjbfdnlaa.Rc
open Go Go.RowKit Go.Proofs.YtedbgkbjbfdnlaaW.PrintWords Go.Proofs.YtedbgkbjbfdnlaaW.PrintLast Go.Proofs.YtedbgkbjbfdnlaaW.PrintMore Go.Proofs.Ytedbgkbjbfdnlaa.Pk
set_option linter.unusedVariables false
set_option linter.unusedSimpArgs false
theorem same_l0 (l : List Int) (hl : l.length ≤ 1000) : ∀ (d k i : Nat), i + d = l.length → d < k → Rp.tidemillref01_Same.l0 k l l (i : Int) = some true := by
  intro d
  induction d with
  | zero =>
    intro k i hi hk
    obtain ⟨k, rfl⟩ : ∃ m, k = m + 1 := ⟨k - 1, by omega⟩
    simp only [Rp.tidemillref01_Same.l0]
    rw [if_neg (by omega)]
  | succ d ih =>
    intro k i hi hk
    obtain ⟨k, rfl⟩ : ∃ m, k = m + 1 := ⟨k - 1, by omega⟩
    simp only [Rp.tidemillref01_Same.l0]
    rw [if_pos (by omega), if_pos (by omega), if_pos (by omega), if_pos trivial, show wrap64 ((i : Int) + 1) = ((i + 1 : Nat) : Int) by unfold wrap64; omega]
    exact ih k (i + 1) (by omega) (by omega)
theorem same_f (l : List Int) (hl : l.length ≤ 1000) : Rp.tidemillref01_Same.f 1001 l l = some true := by
  unfold Rp.tidemillref01_Same.f
  rw [if_pos rfl]
  exact same_l0 l hl l.length 1001 0 (by omega) (by omega)
theorem ent_same (x : Ent) (h9 : x.offs.length ≤ 1000) (h10 : x.order.length ≤ 1000) : Rp.tidemillref03_Same.f 1001 x.kind x.task x.epoch x.txn x.log x.key x.val x.time x.del x.offs x.order x.kind x.task x.epoch x.txn x.log x.key x.val x.time x.del x.offs x.order = some true := by
  unfold Rp.tidemillref03_Same.f
  rw [same_f _ h9, same_f _ h10]
  simp
theorem C8_take {w : World} {A : Option Addr} {n m : Nat} {l : List Int} (h : Kd.C (Kd.int .u8) w A n l) (hm : m ≤ n) : Kd.C (Kd.int .u8) w A m (l.take m) := by
  refine ⟨by rw [List.length_take, h.1]; omega, by have := h.2.1; omega, fun h0 => ?_⟩
  obtain ⟨ad, e, hc⟩ := h.2.2 (by omega)
  refine ⟨ad, e, fun j p hj => hc j p ?_⟩
  rw [List.getElem?_take] at hj
  split at hj
  · exact hj
  · cases hj
theorem infoU8 : (Try.prog.info? 5).map (fun i => (i.zero, i.size, i.bytes)) = some (some (.int .u8 0), 1, 1) := by kernel_rfl
theorem R_g8 {w w1 : World} {base base2 : Nat} {ok ok2 : Nat → Prop} {v u : Value} {xs ys : List Int} (hr : Kd.R (Kd.int .i64) 3 w base ok v xs) (ho : Kd.R (Kd.int .u8) 5 w base2 ok2 u ys) (hg : w.grownBy w1 u.ownBlock) : Kd.R (Kd.int .i64) 3 w1 base ok v xs :=
  Kd.R_mono (Kd.R_move (Kd.R_bound hr) (fun k hk => by
    obtain ⟨_, _, hlt, q, hq, cs, hc⟩ := hk
    have e : q = 3 := by simpa [Kd.int, Kd.scalar] using hq
    subst e
    exact hg.block k hlt (Kd.R_ne ho hc (by decide)))) (fun _ hk => hk.1)
theorem entry_no (x : Ent) (hx : entWf x) (hm : may x = false) (A9 : Option Addr) (n9 c9 : Nat) (A10 : Option Addr) (n10 c10 : Nat) (w : World) (h9 : x.offs.length = n9) (h10 : x.order.length = n10) (hr9 : (Kd.int .i64).C w A9 n9 x.offs) (hc9 : n9 ≤ c9) (hr10 : (Kd.int .i64).C w A10 n10 x.order) (hc10 : n10 ≤ c10) :
    Calls Try.prog 12 #[entV x A9 n9 c9 A10 n10 c10] w fun e w' => ∃ v : Value, e = .returned (.tuple #[v, .int .i64 1]) ∧ (Kd.int .u8).R 5 w' w.heap.size (fun _ => True) v [] ∧ Below w.heap.size w w' := by
  subst h9
  subst h10
  exact Rp.rec_Entry.calls 306 _ _ _ _ _ _ _ _ _ A9 c9 x.offs A10 c10 x.order [] 1 w hr9 hc9 hr10 hc10 (by rw [entF 300 (by omega) (by omega) x hx, if_neg (by rw [hm]; simp)])
/-- The two parameters' own variables. -/
structure BA (w0 w : World) (g3 g4 : Nat) (E : Array Value) (a b c : Int) : Prop where
  b3 : w.heap[g3]? = some (.cells E 26 (0, 0))
  b4 : w.heap[g4]? = some (.cells #[.int .i64 a, .int .i64 b, .int .i64 c] 23 (0, 0))
  bl : Below w0.heap.size w0 w
theorem BA.below {w0 w w1 : World} {g3 g4 : Nat} {E : Array Value} {a b c : Int} (h : BA w0 w g3 g4 E a b c) (hb : Below w.heap.size w w1) : BA w0 w1 g3 g4 E a b c := ⟨blk_below h.b3 hb, blk_below h.b4 hb, below_step h.bl hb⟩
theorem BA.row {w0 w w1 : World} {g3 g4 : Nat} {E : Array Value} {a b c : Int} {base : Nat} {ok : Nat → Prop} {v : Value} {xs : List Int} (h : BA w0 w g3 g4 E a b c) (hr : Kd.R (Kd.int .u8) 5 w base ok v xs) (hg : w.grownBy w1 v.ownBlock) (hb : Below w0.heap.size w0 w1) : BA w0 w1 g3 g4 E a b c :=
  ⟨blk_grown h.b3 hg (Kd.R_ne hr h.b3 (by decide)), blk_grown h.b4 hg (Kd.R_ne hr h.b4 (by decide)), hb⟩
theorem uenc_len : ∀ l : List Int, (∀ n ∈ l, I64 n) → (uenc l).length ≤ 10 * l.length := by
  intro l
  induction l with
  | nil => intro _; exact Nat.le_refl _
  | cons a l ih =>
    intro h
    have h1 := enc_len (uns_range (h a (List.mem_cons_self ..)).1 (h a (List.mem_cons_self ..)).2).2
    have h2 := ih fun n hn => h n (List.mem_cons_of_mem _ hn)
    rw [uenc_cons, List.length_append, List.length_cons]
    omega
theorem encs_len : ∀ l : List Int, (∀ n ∈ l, n < 18446744073709551616) → (Pk.encs l).length ≤ 10 * l.length := by
  intro l
  induction l with
  | nil => intro _; exact Nat.le_refl _
  | cons a l ih =>
    intro h
    have h1 := enc_len (h a (List.mem_cons_self ..))
    have h2 := ih fun n hn => h n (List.mem_cons_of_mem _ hn)
    rw [encs_cons, List.length_append, List.length_cons]
    omega
theorem entB_len {x : Ent} (hm : may x = true) (hw : entWf x) : (entB x).length ≤ 4000 := by
  obtain ⟨n1, n2, n3, n4, n5, n9, n10⟩ := may_nums hm
  have h1 := encs_len [x.kind, x.task, x.epoch, x.txn, x.log] (by
    intro n hn
    simp only [List.mem_cons, List.not_mem_nil, or_false] at hn
    omega)
  have h2 := recB_len hw.2.1.1 hw.2.1.2.1 hw.2.1.2.2
  have h3 := uenc_len x.offs hw.2.2.1
  have h4 := uenc_len x.order hw.2.2.2
  have h5 := enc_len (n := (x.offs.length : Int)) (by omega)
  have h6 := enc_len (n := (x.order.length : Int)) (by omega)
  have h7 : (enc (if x.del = true then 1 else 0)).length ≤ 10 := enc_len (by split <;> omega)
  unfold entB tailB
  simp only [List.length_append, List.length_cons, List.length_nil] at h1 ⊢
  omega
theorem toRec_at (A0 : Option Addr) (c0 n : Nat) (l0 : List Int) (q : Int × Int × Int × Int) (w : World) (hn : l0.length = n) (hr0 : Kd.C (Kd.int .u8) w A0 n l0) (hl : n < 140737488355328) (hby : Byt l0) (hq : toRec l0 = q) :
    Calls Try.prog 13 #[.slice A0 n c0] w fun e w' => e = .returned (.tuple #[.agg #[.int .i64 q.1, .int .i64 q.2.1, .int .i64 q.2.2.1], .int .i64 q.2.2.2]) ∧ Below w.heap.size w w' := by
  subst hn
  subst hq
  exact toRec_ok A0 c0 l0 w hr0 hl hby
theorem toEnt_at (A0 : Option Addr) (c0 n : Nat) (l0 : List Int) (q : Ent × Int) (w : World) (hn : l0.length = n) (hr0 : Kd.C (Kd.int .u8) w A0 n l0) (hl : n < 140737488355328) (hby : Byt l0) (hq : toEnt l0 = q) :
    Calls Try.prog 18 #[.slice A0 n c0] w fun e w' => ∃ A9 c9 A10 c10, e = .returned (.tuple #[.agg #[.int .i64 q.1.kind, .int .i64 q.1.task, .int .i64 q.1.epoch, .int .i64 q.1.txn, .int .i64 q.1.log, .int .i64 q.1.key, .int .i64 q.1.val, .int .i64 q.1.time, .bool q.1.del, .slice A9 q.1.offs.length c9, .slice A10 q.1.order.length c10], .int .i64 q.2]) ∧ Kd.R (Kd.int .i64) 3 w' w.heap.size (fun _ => True) (.slice A9 q.1.offs.length c9) q.1.offs ∧ Kd.R (Kd.int .i64) 3 w' w.heap.size (fun _ => True) (.slice A10 q.1.order.length c10) q.1.order ∧ Below w.heap.size w w' := by
  subst hn
  subst hq
  refine (toEnt_ok A0 c0 l0 w hr0 hl hby).mono ?_
  rintro e w' ⟨v9, v10, rfl, r9, r10, hb⟩
  obtain ⟨B9, d9, rfl⟩ := Kd.R_slice r9
  obtain ⟨B10, d10, rfl⟩ := Kd.R_slice r10
  exact ⟨_, _, _, _, rfl, r9, r10, hb⟩
theorem same_at (x : Ent) (h9 : x.offs.length ≤ 1000) (h10 : x.order.length ≤ 1000) (A9 : Option Addr) (n9 c9 : Nat) (A10 : Option Addr) (n10 c10 : Nat) (B9 : Option Addr) (d9 : Nat) (B10 : Option Addr) (d10 : Nat) (w : World) (e9 : x.offs.length = n9) (e10 : x.order.length = n10)
    (hr9 : Kd.C (Kd.int .i64) w A9 n9 x.offs) (hc9 : n9 ≤ c9) (hr10 : Kd.C (Kd.int .i64) w A10 n10 x.order) (hc10 : n10 ≤ c10) (hy9 : n9 ≤ d9 ∧ Kd.C (Kd.int .i64) w B9 x.offs.length x.offs) (hy10 : n10 ≤ d10 ∧ Kd.C (Kd.int .i64) w B10 x.order.length x.order) :
    Calls Try.prog 11 #[entV x A9 n9 c9 A10 n10 c10, entV x B9 n9 d9 B10 n10 d10] w fun e w' => e = .returned (.bool true) ∧ Below w.heap.size w w' := by
  subst e9
  subst e10
  exact Rp.tidemillref03_Same.calls 1001 _ _ _ _ _ _ _ _ _ A9 c9 x.offs A10 c10 x.order _ _ _ _ _ _ _ _ _ B9 d9 x.offs B10 d10 x.order true w hr9 hc9 hr10 hc10 hy9.2 hy9.1 hy10.2 hy10.1 (ent_same x h9 h10)
set_option maxHeartbeats 4000000 in
set_option maxRecDepth 100000 in
theorem back_ok (k tk ep tx lg ky vl tm : Int) (dl : Bool) (l9 l10 : List Int) (r0 r1 r2 c : Int) (A9 : Option Addr) (n9 c9 : Nat) (A10 : Option Addr) (n10 c10 : Nat) (w : World) (h9 : l9.length = n9) (h10 : l10.length = n10) (hr9 : (Kd.int .i64).C w A9 n9 l9) (hc9 : n9 ≤ c9) (hr10 : (Kd.int .i64).C w A10 n10 l10) (hc10 : n10 ≤ c10)
    (hx : entWf ⟨k, tk, ep, tx, lg, ky, vl, tm, dl, l9, l10⟩) (hr : I64 r0 ∧ I64 r1 ∧ I64 r2) (hc : 0 ≤ c ∧ c < 256) :
    Calls Try.prog 7 #[.agg #[.int .i64 k, .int .i64 tk, .int .i64 ep, .int .i64 tx, .int .i64 lg, .int .i64 ky, .int .i64 vl, .int .i64 tm, .bool dl, .slice A9 n9 c9, .slice A10 n10 c10], .agg #[.int .i64 r0, .int .i64 r1, .int .i64 r2], .int .u8 c] w fun e w' => e = .returned (.bool true) ∧ Below w.heap.size w w' := by
  have H9 := Aside0.mk h9
  have H10 := Aside0.mk h10
  have HC9 := Aside0.mk hr9
  have HC10 := Aside0.mk hr10
  have HL9 := Aside0.mk hc9
  have HL10 := Aside0.mk hc10
  have HX := Aside0.mk hx
  have HR := Aside0.mk hr
  have HCC := Aside0.mk hc
  clear h9 h10 hr9 hr10 hc9 hc10 hx hr hc
  obtain ⟨xs, HXS⟩ : ∃ xs, Aside0 (recB r0 r1 r2 = xs) := ⟨_, ⟨rfl⟩⟩
  obtain ⟨n8, HN8⟩ : ∃ n, Aside0 (xs.length = n) := ⟨_, ⟨rfl⟩⟩
  have hn8 : 3 ≤ n8 := by rw [← HN8.out, ← HXS.out]; exact recB_pos _ _ _
  have hn8b : n8 ≤ 30 := by rw [← HN8.out, ← HXS.out]; exact recB_len HR.out.1 HR.out.2.1 HR.out.2.2
  have HBX : Aside0 (Byt xs) := ⟨by rw [← HXS.out]; exact recB_byt _ _ _⟩
  go_enter Try.func7, Try.ntmps7
  go_upto_region 1 with fail
  have HB : Aside0 (BA w ((w.alloc (.cells #[.int .i64 k, .int .i64 tk, .int .i64 ep, .int .i64 tx, .int .i64 lg, .int .i64 ky, .int .i64 vl, .int .i64 tm, .bool dl, .slice A9 n9 c9, .slice A10 n10 c10] 26)).alloc (.cells #[.int .i64 r0, .int .i64 r1, .int .i64 r2] 23)) w.heap.size (w.heap.size + 1) #[.int .i64 k, .int .i64 tk, .int .i64 ep, .int .i64 tx, .int .i64 lg, .int .i64 ky, .int .i64 vl, .int .i64 tm, .bool dl, .slice A9 n9 c9, .slice A10 n10 c10] r0 r1 r2) := ⟨⟨blk_below (heap_alloc_new w _) (below_alloc (Below.refl _ _) _), by rw [show w.heap.size + 1 = (w.alloc (.cells #[.int .i64 k, .int .i64 tk, .int .i64 ep, .int .i64 tx, .int .i64 lg, .int .i64 ky, .int .i64 vl, .int .i64 tm, .bool dl, .slice A9 n9 c9, .slice A10 n10 c10] 26)).heap.size by simp]; exact heap_alloc_new _ _, below_alloc (below_alloc (Below.refl _ _) _) _⟩⟩
  generalize (w.alloc (.cells #[.int .i64 k, .int .i64 tk, .int .i64 ep, .int .i64 tx, .int .i64 lg, .int .i64 ky, .int .i64 vl, .int .i64 tm, .bool dl, .slice A9 n9 c9, .slice A10 n10 c10] 26)).alloc (.cells #[.int .i64 r0, .int .i64 r1, .int .i64 r2] 23) = w1 at HB ⊢
  generalize w.heap.size + 1 = g4 at HB ⊢
  generalize hg3 : w.heap.size = g3 at HB ⊢
  go_wp2_with fail
  refine (shown_ok _).mono ?_
  rintro e w2 ⟨rfl, hb_⟩
  replace HB := Aside0.mk (HB.out.below hb_)
  clear hb_ hg3
  have q0_ := (blk_cell HB.out.b4 0).trans (rfl : _ = some (.int .i64 r0 : Value))
  have q1_ := (blk_cell HB.out.b4 1).trans (rfl : _ = some (.int .i64 r1 : Value))
  have q2_ := (blk_cell HB.out.b4 2).trans (rfl : _ = some (.int .i64 r2 : Value))

  go_wp2_with fail
  refine (record_str r0 r1 r2 xs _ HR.out.1 HR.out.2.1 HR.out.2.2 HXS.out).mono ?_
  rintro e w3 ⟨v8, rfl, hr_, hb_⟩
  obtain ⟨A8, c8, rfl⟩ := Kd.R_slice hr_
  have HR8 := Aside0.mk (Kd.R_lower hr_ HB.out.bl.size)
  replace HB := Aside0.mk (HB.out.below hb_)
  rw [HN8.out] at HR8 ⊢
  have hc8 : n8 ≤ c8 := by have h_ := (Kd.R_reads' HR8.out).2.1; first | exact h_ | rwa [HN8.out] at h_
  clear hr_ hb_ q0_ q1_ q2_
  obtain ⟨⟨y0, y1, y2, e1⟩, HQ⟩ : ∃ q, Aside0 (toRec xs = q) := ⟨_, ⟨rfl⟩⟩
  obtain ⟨tb, HTB⟩ : ∃ tb, Aside0 (timeOk r2 = tb) := ⟨_, ⟨rfl⟩⟩
  have HQT : Aside0 ((y0, y1, y2, e1) = if tb = false then (0, 0, 0, 2) else (r0, r1, r2, 0)) := ⟨by rw [← HQ.out, ← HXS.out, ← HTB.out]; exact toRec_enc0 HR.out.1 HR.out.2.1 HR.out.2.2⟩
  go_wp2_with fail
  refine (toRec_at A8 c8 n8 xs _ _ HN8.out (by have h_ := (Kd.R_reads' HR8.out).2.2; rwa [HN8.out] at h_) (by omega) HBX.out HQ.out).mono ?_
  rintro e w4 ⟨rfl, hb_⟩
  replace HB := Aside0.mk (HB.out.below hb_)
  replace HR8 := Aside0.mk (Kd.R_below HR8.out hb_)
  clear hb_
  go_upto_region 4 with fail
  have hb_ := below_alloc (Below.refl w4.heap.size w4) (.cells #[.int .i64 y0, .int .i64 y1, .int .i64 y2] 23)
  have HS := Aside0.mk (heap_alloc_new w4 (.cells #[.int .i64 y0, .int .i64 y1, .int .i64 y2] 23))
  replace HB := Aside0.mk (HB.out.below hb_)
  replace HR8 := Aside0.mk (Kd.R_below HR8.out hb_)
  generalize w4.alloc (.cells #[.int .i64 y0, .int .i64 y1, .int .i64 y2] 23) = w5 at HB HR8 HS hb_ ⊢
  generalize w4.heap.size = gs at HS ⊢
  clear hb_
  go_cut [11] (fun v11 wc => v11 = .bool tb ∧ wc = w5)
  case first =>
    have q2_ := (blk_cell HB.out.b4 2).trans (rfl : _ = some (.int .i64 r2 : Value))
    by_cases h1 : 0 ≤ r2
    · have h1b : decide (0 ≤ r2) = true := by simpa using h1
      by_cases h2 : r2 ≤ 1099511627776
      · have h2b : decide (r2 ≤ 1099511627776) = true := by simpa using h2
        obtain rfl : tb = true := by rw [← HTB.out]; unfold timeOk; rw [h1b, h2b]; rfl
        go_wp2_with fail
        go_meet
        case rel => exact ⟨rfl, rfl⟩
      · have h2b : decide (r2 ≤ 1099511627776) = false := by simpa using h2
        obtain rfl : tb = false := by rw [← HTB.out]; unfold timeOk; rw [h1b, h2b]; rfl
        go_wp2_with fail
        go_meet
        case rel => exact ⟨rfl, rfl⟩
    · have h1b : decide (0 ≤ r2) = false := by simpa using h1
      obtain rfl : tb = false := by rw [← HTB.out]; unfold timeOk; rw [h1b]; rfl
      go_wp2_with fail
      go_meet
      case rel => exact ⟨rfl, rfl⟩
  case rest =>
  obtain ⟨rfl, hwc⟩ := hcut
  subst hwc
  go_upto_region 5 with fail
  go_cut [56] (fun v56 wd => v56 = .bool false ∧ wd = wc)
  case first =>
    have hn3 : decide ((n8 : Int) < 3) = false := by simp; omega
    have hn3b : decide (n8 < 3) = false := by simp; omega
    have s0_ := (blk_cell HS.out 0).trans (rfl : _ = some (.int .i64 y0 : Value))
    have s1_ := (blk_cell HS.out 1).trans (rfl : _ = some (.int .i64 y1 : Value))
    have s2_ := (blk_cell HS.out 2).trans (rfl : _ = some (.int .i64 y2 : Value))
    have q0_ := (blk_cell HB.out.b4 0).trans (rfl : _ = some (.int .i64 r0 : Value))
    have q1_ := (blk_cell HB.out.b4 1).trans (rfl : _ = some (.int .i64 r1 : Value))
    have q2_ := (blk_cell HB.out.b4 2).trans (rfl : _ = some (.int .i64 r2 : Value))

    cases tb with
    | false =>
      have h := HQT.out
      rw [if_pos rfl] at h
      injection h with _ h
      injection h with _ h
      injection h with _ h
      subst h
      go_wp2_with fail
      go_meet
      case rel => exact ⟨rfl, rfl⟩
    | true =>
      have h := HQT.out
      rw [if_neg (by simp)] at h
      injection h with h0 h
      injection h with h1 h
      injection h with h2 h
      subst h0 h1 h2 h
      go_wp2_with fail
      go_meet
      case rel => exact ⟨rfl, rfl⟩
  case rest =>
  obtain ⟨rfl, hwd⟩ := hcut
  subst hwd
  clear HS HQT HTB HQ
  obtain ⟨m8, rfl⟩ : ∃ m, n8 = m + 1 := ⟨n8 - 1, by omega⟩
  have hw1 : IntKind.i64.wrap (((m8 + 1 : Nat) : Int) - 1) = (m8 : Int) := by rw [IntKind.wrap_i64]; omega
  have hw2 : ((m8 + 1 : Nat) : Int) - 1 = (m8 : Int) := by omega
  have hw3 : (m8 : Int) ≤ (c8 : Int) := by omega
  obtain ⟨⟨p0, p1, p2, e2⟩, HQ2⟩ : ∃ q, Aside0 (toRec (xs.take m8) = q) := ⟨_, ⟨rfl⟩⟩
  have HE2 : Aside0 ((e2 == 0) = false) := ⟨by
    have := toRec_less HR.out.1 HR.out.2.1 HR.out.2.2
    rw [HXS.out, HN8.out, Nat.add_sub_cancel, HQ2.out] at this
    simpa using this⟩
  have HLT : Aside0 ((xs.take m8).length = m8) := ⟨by rw [List.length_take, HN8.out]; omega⟩
  go_wp2_with fail
  refine (toRec_at A8 c8 m8 (xs.take m8) _ _ HLT.out (C8_take (by have h_ := (Kd.R_reads' HR8.out).2.2; rwa [HN8.out] at h_) (by omega)) (by omega) (byt_take HBX.out m8) HQ2.out).mono ?_
  rintro e w6 ⟨rfl, hb_⟩
  replace HB := Aside0.mk (HB.out.below hb_)
  replace HR8 := Aside0.mk (Kd.R_below HR8.out hb_)
  clear hb_ hw1 hw2 hw3
  go_upto_region 8 with fail
  have hb_ := below_alloc (Below.refl w6.heap.size w6) (.cells #[.int .i64 p0, .int .i64 p1, .int .i64 p2] 23)
  replace HB := Aside0.mk (HB.out.below hb_)
  replace HR8 := Aside0.mk (Kd.R_below HR8.out hb_)
  generalize w6.alloc (.cells #[.int .i64 p0, .int .i64 p1, .int .i64 p2] 23) = w7 at HB HR8 hb_ ⊢
  generalize w6.heap.size = gp at ⊢
  clear hb_
  obtain ⟨ys, HYS⟩ : ∃ ys, Aside0 (xs ++ [c] = ys) := ⟨_, ⟨rfl⟩⟩
  have HNY : Aside0 (ys.length = m8 + 2) := ⟨by rw [← HYS.out, List.length_append, HN8.out]; rfl⟩
  have HBY : Aside0 (Byt ys) := ⟨by rw [← HYS.out]; exact byt_app HBX.out (by intro x hx; simp at hx; subst hx; exact HCC.out)⟩
  have hxl : xs.length ≤ 40 := by rw [HN8.out]; omega
  go_wp2_with (((with_reducible refine gate_builtin (b := .append) (xs := #[.tmp 67, .tmp 69]) rfl ?_); at_builtin; refine Kd.R_append (Kd.int .u8) (w0 := w) w.heap.size rfl (.tmp 67) (.tmp 69) 32 5 (.int .u8 0) 1 rfl Try.underlying32 infoU8 rfl (by decide) (by omega) (.slice A8 (m8 + 1) c8) xs c [.int .u8 c] (fun _ => True) (fun _ => False) rfl rfl ?aP (fun _ hk => hk.elim) (fun _ _ => trivial) ?aO ?aB ?aS ?aL ?_; (try (case aP => exact rfl)); (case aB => exact (by repeat (first | exact HB.out.bl | apply below_alloc))); (case aO => exact (by (with_reducible repeat (first | apply Kd.R_alloc | apply Kd.R_drewN | apply Kd.R_drew)); exact HR8.out)); (case aS => exact (below_size (by repeat (first | exact HB.out.bl | apply below_alloc)))); (case aL => omega); intro v31 w31 ho_ hb hg hat; have n0_ := Aside0.mk (ho_); have n1_ := Aside0.mk ((HB.out.below (by repeat (first | exact Below.refl _ _ | apply below_alloc | (refine below_set ?_ (Nat.le_refl _))))).row (Kd.R_below HR8.out (by repeat (first | exact Below.refl _ _ | apply below_alloc | (refine below_set ?_ (Nat.le_refl _))))) hg hb); clear HR8; clear HB; have HR8 := n0_; have HB := n1_; clear n0_ n1_; clear ho_ hb hg hat))
  obtain ⟨A31, c31, rfl⟩ := Kd.R_slice HR8.out
  rw [HYS.out, HNY.out] at HR8
  rw [HYS.out, HNY.out]
  obtain ⟨⟨z0, z1, z2, e3⟩, HQ3⟩ : ∃ q, Aside0 (toRec ys = q) := ⟨_, ⟨rfl⟩⟩
  have HE3 : Aside0 ((e3 == 0) = false) := ⟨by
    have := toRec_more HR.out.1 HR.out.2.1 HR.out.2.2 c
    rw [HXS.out, HYS.out, HQ3.out] at this
    simpa using this⟩
  refine (toRec_at A31 c31 (m8 + 2) ys _ _ HNY.out (by have h_ := (Kd.R_reads' HR8.out).2.2; rwa [HNY.out] at h_) (by omega) HBY.out HQ3.out).mono ?_
  rintro e w8 ⟨rfl, hb_⟩
  replace HB := Aside0.mk (HB.out.below hb_)
  clear hb_ HR8
  have he2 := HE2.out
  have he3 := HE3.out
  go_upto_region 11 with fail
  clear he2 he3
  have hb_ := below_alloc (Below.refl w8.heap.size w8) (.cells #[.int .i64 z0, .int .i64 z1, .int .i64 z2] 23)
  replace HB := Aside0.mk (HB.out.below hb_)
  generalize w8.alloc (.cells #[.int .i64 z0, .int .i64 z1, .int .i64 z2] 23) = w9 at HB hb_ ⊢
  clear hb_ hn8 hn8b hxl
  have e0_ := (blk_cell HB.out.b3 0).trans (rfl : _ = some (.int .i64 k : Value))
  have e1_ := (blk_cell HB.out.b3 1).trans (rfl : _ = some (.int .i64 tk : Value))
  have e2_ := (blk_cell HB.out.b3 2).trans (rfl : _ = some (.int .i64 ep : Value))
  have e3_ := (blk_cell HB.out.b3 3).trans (rfl : _ = some (.int .i64 tx : Value))
  have e4_ := (blk_cell HB.out.b3 4).trans (rfl : _ = some (.int .i64 lg : Value))
  have e5_ := (blk_cell HB.out.b3 5).trans (rfl : _ = some (.int .i64 ky : Value))
  have e6_ := (blk_cell HB.out.b3 6).trans (rfl : _ = some (.int .i64 vl : Value))
  have e7_ := (blk_cell HB.out.b3 7).trans (rfl : _ = some (.int .i64 tm : Value))
  have e8_ := (blk_cell HB.out.b3 8).trans (rfl : _ = some (.bool dl : Value))
  have e9_ := (blk_cell HB.out.b3 9).trans (rfl : _ = some (.slice A9 n9 c9 : Value))
  have e10_ := (blk_cell HB.out.b3 10).trans (rfl : _ = some (.slice A10 n10 c10 : Value))

  by_cases hm : may ⟨k, tk, ep, tx, lg, ky, vl, tm, dl, l9, l10⟩ = true
  rotate_left
  · have hm2 : may ⟨k, tk, ep, tx, lg, ky, vl, tm, dl, l9, l10⟩ = false := by simpa using hm
    have HM := Aside0.mk hm2
    clear hm hm2
    go_wp2_with fail
    refine (entry_no ⟨k, tk, ep, tx, lg, ky, vl, tm, dl, l9, l10⟩ HX.out HM.out A9 n9 c9 A10 n10 c10 _ H9.out H10.out (Kd.C_below HC9.out HB.out.bl) HL9.out (Kd.C_below HC10.out HB.out.bl) HL10.out).mono ?_
    rintro e w10 ⟨v, rfl, hr_, hb_⟩
    obtain ⟨Av, cv, rfl⟩ := Kd.R_slice hr_
    replace HB := Aside0.mk (HB.out.below hb_)
    clear hr_ hb_ e0_ e1_ e2_ e3_ e4_ e5_ e6_ e7_ e8_ e9_ e10_
    have e0_ := (blk_cell HB.out.b3 0).trans (rfl : _ = some (.int .i64 k : Value))
    have e1_ := (blk_cell HB.out.b3 1).trans (rfl : _ = some (.int .i64 tk : Value))
    have e2_ := (blk_cell HB.out.b3 2).trans (rfl : _ = some (.int .i64 ep : Value))
    have e3_ := (blk_cell HB.out.b3 3).trans (rfl : _ = some (.int .i64 tx : Value))
    have e4_ := (blk_cell HB.out.b3 4).trans (rfl : _ = some (.int .i64 lg : Value))
    have e5_ := (blk_cell HB.out.b3 5).trans (rfl : _ = some (.int .i64 ky : Value))
    have e6_ := (blk_cell HB.out.b3 6).trans (rfl : _ = some (.int .i64 vl : Value))
    have e7_ := (blk_cell HB.out.b3 7).trans (rfl : _ = some (.int .i64 tm : Value))
    have e8_ := (blk_cell HB.out.b3 8).trans (rfl : _ = some (.bool dl : Value))
    have e9_ := (blk_cell HB.out.b3 9).trans (rfl : _ = some (.slice A9 n9 c9 : Value))
    have e10_ := (blk_cell HB.out.b3 10).trans (rfl : _ = some (.slice A10 n10 c10 : Value))

    go_wp2_with fail
    refine (may_any k tk ep tx lg ky vl tm dl l9 l10 A9 n9 c9 A10 n10 c10 _ H9.out H10.out (Kd.C_below HC9.out HB.out.bl) HL9.out (Kd.C_below HC10.out HB.out.bl) HL10.out).mono ?_
    rintro e w11 ⟨he_, hb_⟩
    rw [HM.out] at he_
    subst he_
    replace HB := Aside0.mk (HB.out.below hb_)
    clear hb_ e0_ e1_ e2_ e3_ e4_ e5_ e6_ e7_ e8_ e9_ e10_
    go_wp2
    go_ret
    exact ⟨rfl, HB.out.bl⟩
  · have HM := Aside0.mk hm
    clear hm
    obtain ⟨zs, HZS⟩ : ∃ zs, Aside0 (entB ⟨k, tk, ep, tx, lg, ky, vl, tm, dl, l9, l10⟩ = zs) := ⟨_, ⟨rfl⟩⟩
    obtain ⟨n, HN⟩ : ∃ n, Aside0 (zs.length = n) := ⟨_, ⟨rfl⟩⟩
    have hn11 : 11 ≤ n := by rw [← HN.out, ← HZS.out]; exact entB_pos _
    have hn40 : n ≤ 4000 := by rw [← HN.out, ← HZS.out]; exact entB_len HM.out HX.out
    have HBZ : Aside0 (Byt zs) := ⟨by rw [← HZS.out]; exact entB_byte _⟩
    have HN9 : Aside0 (l9.length ≤ 1000 ∧ l10.length ≤ 1000) := ⟨by obtain ⟨_, _, _, _, _, a, b⟩ := may_nums HM.out; simp only at a b; omega⟩
    go_wp2_with fail
    refine (entry_ok ⟨k, tk, ep, tx, lg, ky, vl, tm, dl, l9, l10⟩ HX.out HM.out A9 n9 c9 A10 n10 c10 _ H9.out H10.out (Kd.C_below HC9.out HB.out.bl) HL9.out (Kd.C_below HC10.out HB.out.bl) HL10.out).mono ?_
    rintro e w10 ⟨v, rfl, hr_, hb_⟩
    rw [HZS.out] at hr_
    obtain ⟨Al, cl, rfl⟩ := Kd.R_slice hr_
    have HRL := Aside0.mk (Kd.R_lower hr_ HB.out.bl.size)
    replace HB := Aside0.mk (HB.out.below hb_)
    rw [HN.out] at HRL ⊢
    have hcl : n ≤ cl := by have h_ := (Kd.R_reads' HRL.out).2.1; first | exact h_ | rwa [HN.out] at h_
    clear hr_ hb_ e0_ e1_ e2_ e3_ e4_ e5_ e6_ e7_ e8_ e9_ e10_
    have HQ1 : Aside0 (toEnt zs = (⟨k, tk, ep, tx, lg, ky, vl, tm, dl, l9, l10⟩, 0)) := ⟨by rw [← HZS.out]; exact toEnt_enc0 HM.out HX.out⟩
    go_wp2_with fail
    refine (toEnt_at Al cl n zs _ _ HN.out (by have h_ := (Kd.R_reads' HRL.out).2.2; rwa [HN.out] at h_) (by omega) HBZ.out HQ1.out).mono ?_
    rintro e w11 ⟨B9, d9, B10, d10, rfl, r9_, r10_, hb_⟩
    simp only at r9_ r10_
    replace r9_ := Kd.R_lower r9_ HB.out.bl.size
    replace r10_ := Kd.R_lower r10_ HB.out.bl.size
    replace HB := Aside0.mk (HB.out.below hb_)
    replace HRL := Aside0.mk (Kd.R_below HRL.out hb_)
    have HY9 := Aside0.mk r9_
    have HY10 := Aside0.mk r10_
    rw [H9.out] at HY9
    rw [H10.out] at HY10
    simp only
    rw [H9.out, H10.out]
    clear r9_ r10_ hb_
    go_upto_region 15 with fail
    have hb_ := below_alloc (Below.refl w11.heap.size w11) (.cells #[.int .i64 k, .int .i64 tk, .int .i64 ep, .int .i64 tx, .int .i64 lg, .int .i64 ky, .int .i64 vl, .int .i64 tm, .bool dl, .slice B9 n9 d9, .slice B10 n10 d10] 26)
    have HYB := Aside0.mk (heap_alloc_new w11 (.cells #[.int .i64 k, .int .i64 tk, .int .i64 ep, .int .i64 tx, .int .i64 lg, .int .i64 ky, .int .i64 vl, .int .i64 tm, .bool dl, .slice B9 n9 d9, .slice B10 n10 d10] 26))
    replace HB := Aside0.mk (HB.out.below hb_)
    replace HRL := Aside0.mk (Kd.R_below HRL.out hb_)
    replace HY9 := Aside0.mk (Kd.R_below HY9.out hb_)
    replace HY10 := Aside0.mk (Kd.R_below HY10.out hb_)
    generalize w11.alloc (.cells #[.int .i64 k, .int .i64 tk, .int .i64 ep, .int .i64 tx, .int .i64 lg, .int .i64 ky, .int .i64 vl, .int .i64 tm, .bool dl, .slice B9 n9 d9, .slice B10 n10 d10] 26) = w12 at HB HRL HY9 HY10 HYB hb_ ⊢
    generalize w11.heap.size = gy at HYB ⊢
    clear hb_
    have hn1 : decide ((n : Int) < 11) = false := by simp; omega
    have hn1b : decide (n < 11) = false := by simp; omega
    obtain ⟨m, rfl⟩ : ∃ m, n = m + 1 := ⟨n - 1, by omega⟩
    have hw1 : IntKind.i64.wrap (((m + 1 : Nat) : Int) - 1) = (m : Int) := by rw [IntKind.wrap_i64]; omega
    have hw2 : ((m + 1 : Nat) : Int) - 1 = (m : Int) := by omega
    have hw3 : (m : Int) ≤ (cl : Int) := by omega
    obtain ⟨q2, HQ2⟩ : ∃ q, Aside0 (toEnt (zs.take m) = q) := ⟨_, ⟨rfl⟩⟩
    have HE4 : Aside0 ((q2.2 != 0) = true) := ⟨by
      have := toEnt_less HM.out HX.out
      rw [HZS.out, HN.out, Nat.add_sub_cancel, HQ2.out] at this
      simpa using this⟩
    have HLT2 : Aside0 ((zs.take m).length = m) := ⟨by rw [List.length_take, HN.out]; omega⟩
    go_wp2_with fail
    refine (toEnt_at Al cl m (zs.take m) _ _ HLT2.out (C8_take (by have h_ := (Kd.R_reads' HRL.out).2.2; rwa [HN.out] at h_) (by omega)) (by omega) (byt_take HBZ.out m) HQ2.out).mono ?_
    rintro e w13 ⟨D9, f9, D10, f10, rfl, _, _, hb_⟩
    obtain ⟨⟨a0, a1, a2, a3, a4, a5, a6, a7, a8, a9, a10⟩, e4⟩ := q2
    simp only at HE4 ⊢
    replace HB := Aside0.mk (HB.out.below hb_)
    replace HRL := Aside0.mk (Kd.R_below HRL.out hb_)
    replace HY9 := Aside0.mk (Kd.R_below HY9.out hb_)
    replace HY10 := Aside0.mk (Kd.R_below HY10.out hb_)
    replace HYB := Aside0.mk (blk_below HYB.out hb_)
    clear hb_ hw1 hw2 hw3
    generalize a9.length = n49
    generalize a10.length = n410
    go_upto_region 18 with fail
    have hb_ := below_alloc (Below.refl w13.heap.size w13) (.cells #[.int .i64 a0, .int .i64 a1, .int .i64 a2, .int .i64 a3, .int .i64 a4, .int .i64 a5, .int .i64 a6, .int .i64 a7, .bool a8, .slice D9 n49 f9, .slice D10 n410 f10] 26)
    replace HB := Aside0.mk (HB.out.below hb_)
    replace HRL := Aside0.mk (Kd.R_below HRL.out hb_)
    replace HY9 := Aside0.mk (Kd.R_below HY9.out hb_)
    replace HY10 := Aside0.mk (Kd.R_below HY10.out hb_)
    replace HYB := Aside0.mk (blk_below HYB.out hb_)
    generalize w13.alloc (.cells #[.int .i64 a0, .int .i64 a1, .int .i64 a2, .int .i64 a3, .int .i64 a4, .int .i64 a5, .int .i64 a6, .int .i64 a7, .bool a8, .slice D9 n49 f9, .slice D10 n410 f10] 26) = w14 at HB HRL HY9 HY10 HYB hb_ ⊢
    generalize w13.heap.size = ga
    clear hb_
    obtain ⟨us, HUS⟩ : ∃ us, Aside0 (zs ++ [c] = us) := ⟨_, ⟨rfl⟩⟩
    have HNU : Aside0 (us.length = m + 2) := ⟨by rw [← HUS.out, List.length_append, HN.out]; rfl⟩
    have HBU : Aside0 (Byt us) := ⟨by rw [← HUS.out]; exact byt_app HBZ.out (by intro x hx; simp at hx; subst hx; exact HCC.out)⟩
    have hzl : zs.length ≤ 4001 := by rw [HN.out]; omega
    go_wp2_with (((with_reducible refine gate_builtin (b := .append) (xs := #[.tmp 111, .tmp 113]) rfl ?_); at_builtin; refine Kd.R_append (Kd.int .u8) (w0 := w) w.heap.size rfl (.tmp 111) (.tmp 113) 32 5 (.int .u8 0) 1 rfl Try.underlying32 infoU8 rfl (by decide) (by omega) (.slice Al (m + 1) cl) zs c [.int .u8 c] (fun _ => True) (fun _ => False) rfl rfl ?aP (fun _ hk => hk.elim) (fun _ _ => trivial) ?aO ?aB ?aS ?aL ?_; (try (case aP => exact rfl)); (case aB => exact (by repeat (first | exact HB.out.bl | apply below_alloc))); (case aO => exact (by (with_reducible repeat (first | apply Kd.R_alloc | apply Kd.R_drewN | apply Kd.R_drew)); exact HRL.out)); (case aS => exact (below_size (by repeat (first | exact HB.out.bl | apply below_alloc)))); (case aL => omega); intro v31 w31 ho_ hb hg hat; have n0_ := Aside0.mk (ho_); have n1_ := Aside0.mk ((HB.out.below (by repeat (first | exact Below.refl _ _ | apply below_alloc | (refine below_set ?_ (Nat.le_refl _))))).row (Kd.R_below HRL.out (by repeat (first | exact Below.refl _ _ | apply below_alloc | (refine below_set ?_ (Nat.le_refl _))))) hg hb); have n2_ := Aside0.mk (R_g8 (Kd.R_below HY9.out (by repeat (first | exact Below.refl _ _ | apply below_alloc | (refine below_set ?_ (Nat.le_refl _))))) (Kd.R_below HRL.out (by repeat (first | exact Below.refl _ _ | apply below_alloc | (refine below_set ?_ (Nat.le_refl _))))) hg); have n3_ := Aside0.mk (R_g8 (Kd.R_below HY10.out (by repeat (first | exact Below.refl _ _ | apply below_alloc | (refine below_set ?_ (Nat.le_refl _))))) (Kd.R_below HRL.out (by repeat (first | exact Below.refl _ _ | apply below_alloc | (refine below_set ?_ (Nat.le_refl _))))) hg); have n4_ := Aside0.mk (blk_grown (blk_below HYB.out (by repeat (first | exact Below.refl _ _ | apply below_alloc | (refine below_set ?_ (Nat.le_refl _))))) hg (Kd.R_ne (Kd.R_below HRL.out (by repeat (first | exact Below.refl _ _ | apply below_alloc | (refine below_set ?_ (Nat.le_refl _))))) (blk_below HYB.out (by repeat (first | exact Below.refl _ _ | apply below_alloc | (refine below_set ?_ (Nat.le_refl _))))) (by decide))); clear HRL; clear HB; clear HY9; clear HY10; clear HYB; have HRL := n0_; have HB := n1_; have HY9 := n2_; have HY10 := n3_; have HYB := n4_; clear n0_ n1_ n2_ n3_ n4_; clear ho_ hb hg hat))
    obtain ⟨A31, c31, rfl⟩ := Kd.R_slice HRL.out
    rw [HUS.out, HNU.out] at HRL
    rw [HUS.out, HNU.out]
    obtain ⟨q5, HQ5⟩ : ∃ q, Aside0 (toEnt us = q) := ⟨_, ⟨rfl⟩⟩
    have HE5 : Aside0 ((q5.2 != 0) = true) := ⟨by
      have := toEnt_more HM.out HX.out c
      rw [HZS.out, HUS.out, HQ5.out] at this
      simpa using this⟩
    refine (toEnt_at A31 c31 (m + 2) us _ _ HNU.out (by have h_ := (Kd.R_reads' HRL.out).2.2; rwa [HNU.out] at h_) (by omega) HBU.out HQ5.out).mono ?_
    rintro e w15 ⟨D9, f9, D10, f10, rfl, _, _, hb_⟩
    obtain ⟨⟨a0, a1, a2, a3, a4, a5, a6, a7, a8, a9, a10⟩, e5⟩ := q5
    simp only at HE5 ⊢
    replace HB := Aside0.mk (HB.out.below hb_)
    replace HY9 := Aside0.mk (Kd.R_below HY9.out hb_)
    replace HY10 := Aside0.mk (Kd.R_below HY10.out hb_)
    replace HYB := Aside0.mk (blk_below HYB.out hb_)
    clear hb_ HRL
    generalize a9.length = n59
    generalize a10.length = n510
    go_upto_region 19 with fail
    have hb_ := below_alloc (Below.refl w15.heap.size w15) (.cells #[.int .i64 a0, .int .i64 a1, .int .i64 a2, .int .i64 a3, .int .i64 a4, .int .i64 a5, .int .i64 a6, .int .i64 a7, .bool a8, .slice D9 n59 f9, .slice D10 n510 f10] 26)
    replace HB := Aside0.mk (HB.out.below hb_)
    replace HY9 := Aside0.mk (Kd.R_below HY9.out hb_)
    replace HY10 := Aside0.mk (Kd.R_below HY10.out hb_)
    replace HYB := Aside0.mk (blk_below HYB.out hb_)
    generalize w15.alloc (.cells #[.int .i64 a0, .int .i64 a1, .int .i64 a2, .int .i64 a3, .int .i64 a4, .int .i64 a5, .int .i64 a6, .int .i64 a7, .bool a8, .slice D9 n59 f9, .slice D10 n510 f10] 26) = w16 at HB HY9 HY10 HYB hb_ ⊢
    clear hb_
    have e0_ := (blk_cell HB.out.b3 0).trans (rfl : _ = some (.int .i64 k : Value))
    have e1_ := (blk_cell HB.out.b3 1).trans (rfl : _ = some (.int .i64 tk : Value))
    have e2_ := (blk_cell HB.out.b3 2).trans (rfl : _ = some (.int .i64 ep : Value))
    have e3_ := (blk_cell HB.out.b3 3).trans (rfl : _ = some (.int .i64 tx : Value))
    have e4_ := (blk_cell HB.out.b3 4).trans (rfl : _ = some (.int .i64 lg : Value))
    have e5_ := (blk_cell HB.out.b3 5).trans (rfl : _ = some (.int .i64 ky : Value))
    have e6_ := (blk_cell HB.out.b3 6).trans (rfl : _ = some (.int .i64 vl : Value))
    have e7_ := (blk_cell HB.out.b3 7).trans (rfl : _ = some (.int .i64 tm : Value))
    have e8_ := (blk_cell HB.out.b3 8).trans (rfl : _ = some (.bool dl : Value))
    have e9_ := (blk_cell HB.out.b3 9).trans (rfl : _ = some (.slice A9 n9 c9 : Value))
    have e10_ := (blk_cell HB.out.b3 10).trans (rfl : _ = some (.slice A10 n10 c10 : Value))

    have f0_ := (blk_cell HYB.out 0).trans (rfl : _ = some (.int .i64 k : Value))
    have f1_ := (blk_cell HYB.out 1).trans (rfl : _ = some (.int .i64 tk : Value))
    have f2_ := (blk_cell HYB.out 2).trans (rfl : _ = some (.int .i64 ep : Value))
    have f3_ := (blk_cell HYB.out 3).trans (rfl : _ = some (.int .i64 tx : Value))
    have f4_ := (blk_cell HYB.out 4).trans (rfl : _ = some (.int .i64 lg : Value))
    have f5_ := (blk_cell HYB.out 5).trans (rfl : _ = some (.int .i64 ky : Value))
    have f6_ := (blk_cell HYB.out 6).trans (rfl : _ = some (.int .i64 vl : Value))
    have f7_ := (blk_cell HYB.out 7).trans (rfl : _ = some (.int .i64 tm : Value))
    have f8_ := (blk_cell HYB.out 8).trans (rfl : _ = some (.bool dl : Value))
    have f9_ := (blk_cell HYB.out 9).trans (rfl : _ = some (.slice B9 n9 d9 : Value))
    have f10_ := (blk_cell HYB.out 10).trans (rfl : _ = some (.slice B10 n10 d10 : Value))

    have he4 := HE4.out
    have he5 := HE5.out
    have HCY9 := Aside0.mk (Kd.R_reads' HY9.out).2
    have HCY10 := Aside0.mk (Kd.R_reads' HY10.out).2
    go_wp2_with fail
    refine (same_at ⟨k, tk, ep, tx, lg, ky, vl, tm, dl, l9, l10⟩ HN9.out.1 HN9.out.2 A9 n9 c9 A10 n10 c10 B9 d9 B10 d10 _ H9.out H10.out (Kd.C_below HC9.out HB.out.bl) HL9.out (Kd.C_below HC10.out HB.out.bl) HL10.out HCY9.out HCY10.out).mono ?_
    rintro e w17 ⟨rfl, hb_⟩
    replace HB := Aside0.mk (HB.out.below hb_)
    clear hb_ e0_ e1_ e2_ e3_ e4_ e5_ e6_ e7_ e8_ e9_ e10_ f0_ f1_ f2_ f3_ f4_ f5_ f6_ f7_ f8_ f9_ f10_
    go_wp2
    go_ret
    exact ⟨rfl, HB.out.bl⟩
end Go.Proofs.Ytedbgkbjbfdnlaa.Rc
