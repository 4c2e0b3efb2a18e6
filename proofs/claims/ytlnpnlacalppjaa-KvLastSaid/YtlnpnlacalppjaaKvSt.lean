/- One store, two, three, as a call goes on. -/
import Derived.Test.YtlnpnlacalppjaaKvList
import Derived.Test.YtlnpnlacalppjaaEx4
namespace Go.Proofs.Ytlnpnlacalppjaa.Kv
open Go Go.RowKit Go.Proofs.YtlnpnlacalppjaaW.PrintWords Go.Proofs.YtlnpnlacalppjaaW.PrintLast Go.Proofs.YtlnpnlacalppjaaW.PrintMore Go.Proofs.Ytlnpnlacalppjaa.Rw Go.Proofs.Ytlnpnlacalppjaa.Ex
set_option linter.unusedVariables false
set_option linter.unusedSimpArgs false
theorem wfk_u8 {n : Int} (h : (Lit.int .u8 n).wf = true) : 0 ≤ n ∧ n < 256 := by
  simp [Lit.wf, IntKind.min, IntKind.max, IntKind.bits, IntKind.signed] at h
  omega
theorem wfk_i64 {n : Int} (h : (Lit.int .i64 n).wf = true) : In64 n := by
  simp [Lit.wf, IntKind.min, IntKind.max, IntKind.bits, IntKind.signed] at h
  unfold In64
  omega
theorem wfk_i16 {n : Int} (h : (Lit.int .i16 n).wf = true) : -32768 ≤ n ∧ n ≤ 32767 := by
  simp [Lit.wf, IntKind.min, IntKind.max, IntKind.bits, IntKind.signed] at h
  omega
/-- One store. -/
structure St1 (w0 w : World) (b : Nat) (room : Int) (L : KL) : Prop where
  k : ∃ v, KvS w w0.heap.size b room v L
  bl : Below w0.heap.size w0 w
structure St2 (w0 w : World) (b1 : Nat) (r1 : Int) (L1 : KL) (b2 : Nat) (r2 : Int) (L2 : KL) : Prop where
  k : ∃ v1 v2, KvS w w0.heap.size b1 r1 v1 L1 ∧ KvS w w0.heap.size b2 r2 v2 L2 ∧ Apart b1 v1 b2 v2
  bl : Below w0.heap.size w0 w
structure St3 (w0 w : World) (b1 : Nat) (r1 : Int) (L1 : KL) (b2 : Nat) (r2 : Int) (L2 : KL) (b3 : Nat) (r3 : Int) (L3 : KL) : Prop where
  k : ∃ v1 v2 v3, KvS w w0.heap.size b1 r1 v1 L1 ∧ KvS w w0.heap.size b2 r2 v2 L2 ∧ KvS w w0.heap.size b3 r3 v3 L3 ∧ Apart b1 v1 b2 v2 ∧ Apart b1 v1 b3 v3 ∧ Apart b2 v2 b3 v3
  bl : Below w0.heap.size w0 w
section
variable {w0 w w1 : World} {b b1 b2 b3 : Nat} {room r1 r2 r3 : Int} {L L1 L2 L3 L' : KL} {F : FuncId} {args : Array Value} {x : Value}
theorem St1.below (h : St1 w0 w b room L) (hb : Below w.heap.size w w1) : St1 w0 w1 b room L := by
  obtain ⟨⟨v, hk⟩, hl⟩ := h
  exact ⟨⟨v, hk.below hb⟩, below_step hl hb⟩
theorem St2.below (h : St2 w0 w b1 r1 L1 b2 r2 L2) (hb : Below w.heap.size w w1) : St2 w0 w1 b1 r1 L1 b2 r2 L2 := by
  obtain ⟨⟨v1, v2, h1, h2, ha⟩, hl⟩ := h
  exact ⟨⟨v1, v2, h1.below hb, h2.below hb, ha⟩, below_step hl hb⟩
theorem St3.below (h : St3 w0 w b1 r1 L1 b2 r2 L2 b3 r3 L3) (hb : Below w.heap.size w w1) : St3 w0 w1 b1 r1 L1 b2 r2 L2 b3 r3 L3 := by
  obtain ⟨⟨v1, v2, v3, h1, h2, h3, ha⟩, hl⟩ := h
  exact ⟨⟨v1, v2, v3, h1.below hb, h2.below hb, h3.below hb, ha⟩, below_step hl hb⟩
theorem St2.symm (h : St2 w0 w b1 r1 L1 b2 r2 L2) : St2 w0 w b2 r2 L2 b1 r1 L1 := by
  obtain ⟨⟨v1, v2, h1, h2, ha⟩, hl⟩ := h
  exact ⟨⟨v2, v1, h2, h1, ha.symm⟩, hl⟩
theorem St3.rot (h : St3 w0 w b1 r1 L1 b2 r2 L2 b3 r3 L3) : St3 w0 w b2 r2 L2 b3 r3 L3 b1 r1 L1 := by
  obtain ⟨⟨v1, v2, v3, h1, h2, h3, ha, hb, hc⟩, hl⟩ := h
  exact ⟨⟨v2, v3, v1, h2, h3, h1, hc, ha.symm, hb.symm⟩, hl⟩
theorem St1.op (h : St1 w0 w b room L) (hc : ∀ v, KvS w w0.heap.size b room v L → Calls Try.prog F args w (OpPost w0.heap.size b room v L' x w)) : Calls Try.prog F args w fun e w' => e = .returned x ∧ St1 w0 w' b room L' := by
  obtain ⟨⟨v, hk⟩, hl⟩ := h
  refine (hc v hk).mono ?_
  rintro e w' ⟨v', rfl, h1, h2, h3⟩
  exact ⟨rfl, ⟨v', h1⟩, Chg.below hl h2 hl.size fun k hk' => (hk.sb k hk').1⟩
theorem St2.op (h : St2 w0 w b1 r1 L1 b2 r2 L2) (hc : ∀ v, KvS w w0.heap.size b1 r1 v L1 → Calls Try.prog F args w (OpPost w0.heap.size b1 r1 v L' x w)) : Calls Try.prog F args w fun e w' => e = .returned x ∧ St2 w0 w' b1 r1 L' b2 r2 L2 := by
  obtain ⟨⟨v1, v2, k1, k2, ha⟩, hl⟩ := h
  refine (hc v1 k1).mono ?_
  rintro e w' ⟨v', rfl, h1, h2, h3⟩
  exact ⟨rfl, ⟨v', v2, h1, k2.other h2 ha.symm, ha.hat h3 fun k hk => (k2.sb k hk).2⟩, Chg.below hl h2 hl.size fun k hk' => (k1.sb k hk').1⟩
theorem St3.op (h : St3 w0 w b1 r1 L1 b2 r2 L2 b3 r3 L3) (hc : ∀ v, KvS w w0.heap.size b1 r1 v L1 → Calls Try.prog F args w (OpPost w0.heap.size b1 r1 v L' x w)) : Calls Try.prog F args w fun e w' => e = .returned x ∧ St3 w0 w' b1 r1 L' b2 r2 L2 b3 r3 L3 := by
  obtain ⟨⟨v1, v2, v3, k1, k2, k3, ha, hb, hcc⟩, hl⟩ := h
  refine (hc v1 k1).mono ?_
  rintro e w' ⟨v', rfl, h1, h2, h3⟩
  exact ⟨rfl, ⟨v', v2, v3, h1, k2.other h2 ha.symm, k3.other h2 hb.symm, ha.hat h3 fun k hk => (k2.sb k hk).2, hb.hat h3 fun k hk => (k3.sb k hk).2, hcc⟩, Chg.below hl h2 hl.size fun k hk' => (k1.sb k hk').1⟩
theorem St1.rd {P : Ending → World → Prop} (h : St1 w0 w b room L) (hc : ∀ v, KvS w w0.heap.size b room v L → Calls Try.prog F args w fun e w' => P e w') : Calls Try.prog F args w fun e w' => P e w' := by
  obtain ⟨⟨v, hk⟩, hl⟩ := h
  exact hc v hk
theorem St2.one (h : St2 w0 w b1 r1 L1 b2 r2 L2) : St1 w0 w b1 r1 L1 := by
  obtain ⟨⟨v1, v2, k1, k2, ha⟩, hl⟩ := h
  exact ⟨⟨v1, k1⟩, hl⟩
theorem St3.one (h : St3 w0 w b1 r1 L1 b2 r2 L2 b3 r3 L3) : St1 w0 w b1 r1 L1 := by
  obtain ⟨⟨v1, v2, v3, k1, k2, k3, ha⟩, hl⟩ := h
  exact ⟨⟨v1, k1⟩, hl⟩
theorem St1.bs (h : St1 w0 w b room L) : w0.heap.size ≤ w.heap.size := h.bl.size
theorem St1.kv (h : St1 w0 w b room L) : Rise L ∧ (∀ p ∈ L, In64 p.1 ∧ In64 p.2) ∧ L.length ≤ 1024 := by
  obtain ⟨⟨v, hk⟩, hl⟩ := h
  exact ⟨hk.rise, hk.keys, hk.len⟩
end
def ex30 (b : Bool) (e1 e2 : Int) : Int := if b = true then e1 else e2
def putC (room : Int) (L : KL) (k v : Int) : Value := if mayPut room L k = true then chgV k v false else chgV 0 0 false
theorem put_val (room : Int) (L : KL) (k x : Int) : (if mayPut room L k = true then Value.tuple #[chgV k x false, .int .i64 0] else .tuple #[chgV 0 0 false, .int .i64 3]) = .tuple #[putC room L k x, .int .i64 (ex30 (mayPut room L k) 0 3)] := by
  unfold putC ex30
  split <;> rfl
section
variable {w0 w : World} {b b1 b2 b3 : Nat} {room r1 r2 r3 : Int} {L L1 L2 L3 : KL}
/-- A put that goes well. -/
theorem St1.put (h : St1 w0 w b room L) (k x : Int) (hk : In64 k) (hx : In64 x) (hm : mayPut room L k = true) : Calls Try.prog 11 #[.pointer (some ⟨b, 0, none⟩), .int .i64 k, .int .i64 x] w fun e w' => e = .returned (.tuple #[.agg #[.int .i64 k, .int .i64 0, .int .i64 0, .int .i64 x, .bool false], .int .i64 0]) ∧ St1 w0 w' b room (put L k x) :=
  h.op fun v hv => by
    have := put_ok w0.heap.size b room v L k x w hv h.bs hk hx
    rw [if_pos hm] at this
    unfold putL at this
    rw [if_pos hm] at this
    exact this
theorem St1.putN (h : St1 w0 w b room L) (k x : Int) (hk : In64 k) (hx : In64 x) (hm : mayPut room L k = false) : Calls Try.prog 11 #[.pointer (some ⟨b, 0, none⟩), .int .i64 k, .int .i64 x] w fun e w' => e = .returned (.tuple #[.agg #[.int .i64 0, .int .i64 0, .int .i64 0, .int .i64 0, .bool false], .int .i64 3]) ∧ St1 w0 w' b room L :=
  h.op fun v hv => by
    have := put_ok w0.heap.size b room v L k x w hv h.bs hk hx
    rw [if_neg (by rw [hm]; simp)] at this
    unfold putL at this
    rw [if_neg (by rw [hm]; simp)] at this
    exact this
theorem St1.del (h : St1 w0 w b room L) (k : Int) (hm : (get L k).isSome = true) : Calls Try.prog 15 #[.pointer (some ⟨b, 0, none⟩), .int .i64 k] w fun e w' => e = .returned (.tuple #[.agg #[.int .i64 k, .int .i64 0, .int .i64 0, .int .i64 0, .bool true], .int .i64 0]) ∧ St1 w0 w' b room (del L k) :=
  h.op fun v hv => by
    have := del_ok w0.heap.size b room v L k w hv h.bs
    rw [if_pos hm] at this
    exact this
theorem St1.delN (h : St1 w0 w b room L) (k : Int) (hm : get L k = none) : Calls Try.prog 15 #[.pointer (some ⟨b, 0, none⟩), .int .i64 k] w fun e w' => e = .returned (.tuple #[.agg #[.int .i64 0, .int .i64 0, .int .i64 0, .int .i64 0, .bool false], .int .i64 6]) ∧ St1 w0 w' b room L :=
  h.op fun v hv => by
    have := del_ok w0.heap.size b room v L k w hv h.bs
    rw [hm, del_none hm] at this
    exact this
theorem St1.get (h : St1 w0 w b room L) (k : Int) : Calls Try.prog 17 #[.pointer (some ⟨b, 0, none⟩), .int .i64 k] w fun e w' => e = .returned (.tuple #[.int .i64 ((get L k).getD 0), .bool (get L k).isSome]) ∧ St1 w0 w' b room L ∧ Below w.heap.size w w' := by
  obtain ⟨⟨v, hk⟩, hl⟩ := h
  exact (get_ok _ b room v L k w hk).mono fun e w' hh => ⟨hh.1, ⟨⟨v, hk.below hh.2⟩, below_step hl hh.2⟩, hh.2⟩
theorem St1.len (h : St1 w0 w b room L) : Calls Try.prog 14 #[.pointer (some ⟨b, 0, none⟩)] w fun e w' => e = .returned (.int .i64 (L.length : Nat)) ∧ w = w' := by
  obtain ⟨⟨v, hk⟩, hl⟩ := h
  exact len_ok _ b room v L w hk
theorem St1.list (h : St1 w0 w b room L) : Calls Try.prog 13 #[.pointer (some ⟨b, 0, none⟩)] w fun e w' => ∃ v0, e = .returned v0 ∧ Kd.R k30 30 w' w.heap.size (fun _ => True) v0 (L.map chgOf) ∧ Below w.heap.size w w' := by
  obtain ⟨⟨v, hk⟩, hl⟩ := h
  exact list_ok _ b room v L w hk
end
theorem new1 (room : Int) (w0 w : World) (hb : Below w0.heap.size w0 w) (h1 : 1 ≤ room) (h2 : room ≤ 1024) : Calls Try.prog 10 #[.int .i64 room] w fun e w' => ∃ b, e = .returned (.tuple #[.pointer (some ⟨b, 0, none⟩), .int .i64 0]) ∧ St1 w0 w' b room [] ∧ Below w.heap.size w w' := by
  refine (new_ok room w h1 h2).mono ?_
  rintro e w' ⟨b, rfl, hk, hb2, _⟩
  exact ⟨b, rfl, ⟨⟨_, hk.lower hb.size⟩, below_step hb hb2⟩, hb2⟩
theorem new2 {b : Nat} {r : Int} {L : KL} (room : Int) (w0 w : World) (h : St1 w0 w b r L) (h1 : 1 ≤ room) (h2 : room ≤ 1024) : Calls Try.prog 10 #[.int .i64 room] w fun e w' => ∃ b2, e = .returned (.tuple #[.pointer (some ⟨b2, 0, none⟩), .int .i64 0]) ∧ St2 w0 w' b r L b2 room [] := by
  refine (new_ok room w h1 h2).mono ?_
  rintro e w' ⟨b2, rfl, hk, hb2, hl⟩
  obtain ⟨⟨v, hv⟩, hbl⟩ := h
  refine ⟨b2, rfl, ⟨v, _, hv.below hb2, hk.lower hbl.size, fun k hk1 hk2 => ?_⟩, below_step hbl hb2⟩
  have e1 := (hv.sb k hk1).2
  have e2 := (hk.sb k hk2).1
  omega
theorem new3 {b b2 : Nat} {r r2 : Int} {L L2 : KL} (room : Int) (w0 w : World) (h : St2 w0 w b r L b2 r2 L2) (h1 : 1 ≤ room) (h2 : room ≤ 1024) : Calls Try.prog 10 #[.int .i64 room] w fun e w' => ∃ b3, e = .returned (.tuple #[.pointer (some ⟨b3, 0, none⟩), .int .i64 0]) ∧ St3 w0 w' b r L b2 r2 L2 b3 room [] := by
  refine (new_ok room w h1 h2).mono ?_
  rintro e w' ⟨b3, rfl, hk, hb2, hl⟩
  obtain ⟨⟨v, v2, hv, hv2, ha⟩, hbl⟩ := h
  refine ⟨b3, rfl, ⟨v, v2, _, hv.below hb2, hv2.below hb2, hk.lower hbl.size, ha, fun k hk1 hk2 => ?_, fun k hk1 hk2 => ?_⟩, below_step hbl hb2⟩
  · have e1 := (hv.sb k hk1).2
    have e2 := (hk.sb k hk2).1
    omega
  · have e1 := (hv2.sb k hk1).2
    have e2 := (hk.sb k hk2).1
    omega
/-- Two lists of changes are the same, if they are. -/
theorem changes_ev (M : List S30) (hl : M.length ≤ 1099511627776) : ∃ k, tidemillref12_Changes.f k M M = some true := by
  have step : ∀ (d : Nat) (k : Nat) (i : Nat), i + d = M.length → d < k → M.length ≤ 1099511627776 → tidemillref12_Changes.l0 k M M i = some true := by
    intro d
    induction d with
    | zero =>
      intro k i hi hk hl
      obtain ⟨k, rfl⟩ : ∃ m, k = m + 1 := ⟨k - 1, by omega⟩
      simp only [tidemillref12_Changes.l0]
      rw [if_neg (by omega)]
    | succ d ih =>
      intro k i hi hk hl
      obtain ⟨k, rfl⟩ : ∃ m, k = m + 1 := ⟨k - 1, by omega⟩
      have h := ih k (i + 1) (by omega) (by omega) hl
      simp only [tidemillref12_Changes.l0]
      rw [if_pos (by omega), if_pos (by omega), if_pos (by omega), if_neg (by simp), show wrap64 ((i : Int) + 1) = ((i + 1 : Nat) : Int) by unfold wrap64; omega]
      exact h
  refine ⟨M.length + 1, ?_⟩
  unfold tidemillref12_Changes.f
  rw [if_pos rfl]
  exact step M.length (M.length + 1) 0 (by omega) (by omega) hl
/-- .. as a call. -/
theorem changes_same (M : List S30) (hl : M.length ≤ 1099511627776) (A0 : Option Addr) (c0 : Nat) (A1 : Option Addr) (c1 : Nat) (w : World) (hr0 : Kd.C k30 w A0 M.length M) (hc0 : M.length ≤ c0) (hr1 : Kd.C k30 w A1 M.length M) (hc1 : M.length ≤ c1) :
    Calls Try.prog 12 #[.slice A0 M.length c0, .slice A1 M.length c1] w fun e w' => e = .returned (.bool true) ∧ Below w.heap.size w w' := by
  obtain ⟨k, hk⟩ := changes_ev M hl
  exact (tidemillref12_Changes.calls k A0 c0 M A1 c1 M true w hr0 hc0 hr1 hc1 hk).mono fun e w' h => ⟨h.1, h.2.below⟩
theorem chg_len (L : KL) : (L.map chgOf).length = L.length := by simp
end Go.Proofs.Ytlnpnlacalppjaa.Kv
