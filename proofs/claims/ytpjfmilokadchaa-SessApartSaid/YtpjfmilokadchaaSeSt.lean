/- (c14) One store, two, as a call goes on. -/
import Derived.Test.YtpjfmilokadchaaSeDo
import Derived.Test.YtpjfmilokadchaaSeLaws
import Derived.Test.YtpjfmilokadchaaEx1
import Derived.Test.YtpjfmilokadchaaEx2
namespace Go.Proofs.Ytpjfmilokadchaa.Se
open Go Go.RowKit Go.Proofs.YtpjfmilokadchaaW.PrintWords Go.Proofs.YtpjfmilokadchaaW.PrintLast Go.Proofs.YtpjfmilokadchaaW.PrintMore Go.Proofs.Ytpjfmilokadchaa.Rw Go.Proofs.Ytpjfmilokadchaa.Ex
set_option linter.unusedVariables false
set_option linter.unusedSimpArgs false
theorem put_ok (base b : Nat) (room gap : Int) (v : Value) (L : List Ses) (key t val : Int) (w : World) (h : SeS w base b room gap v L) (hbs : base ≤ w.heap.size) (hk : In64 key) (hvv : In64 val) :
    Calls Try.prog 10 #[.pointer (some ⟨b, 0, none⟩), .int .i64 key, .int .i64 t, .int .i64 val] w (PutPost base b room gap v (putL room gap L key t val) (putM room gap L key t val) (putE room gap L key t) w) := by
  unfold putL putM putE
  cases hm : mayT t with
  | false =>
    have : putOK room gap L key t = false := by unfold putOK; rw [hm]; rfl
    rw [this, if_neg (by simp), if_neg (by simp), if_neg (by simp)]
    exact put_no base b room gap v L key t val w h hm
  | true =>
    rw [if_pos rfl]
    cases ho : putOK room gap L key t with
    | true =>
      rw [if_pos rfl, if_pos rfl, if_pos rfl]
      refine put_yes base b room gap v L key t val w h hbs hm ?_ hk hvv
      unfold putOK at ho
      rw [hm, Bool.true_and, Bool.or_eq_true] at ho
      rcases ho with ho | ho
      · left; intro e; rw [e] at ho; simp at ho
      · right; simpa using ho
    | false =>
      rw [if_neg (by simp), if_neg (by simp), if_neg (by simp)]
      unfold putOK at ho
      rw [hm, Bool.true_and, Bool.or_eq_false_iff] at ho
      refine put_full base b room gap v L key t val w h hm ?_ (by have := ho.2; simp at this; omega)
      have := ho.1
      cases hf : findL gap L key t with
      | nil => rfl
      | cons x xs => rw [hf] at this; simp at this
theorem wfs_u8 {n : Int} (h : (Lit.int .u8 n).wf = true) : 0 ≤ n ∧ n < 256 := by
  simp [Lit.wf, IntKind.min, IntKind.max, IntKind.bits, IntKind.signed] at h
  omega
theorem wfs_u16 {n : Int} (h : (Lit.int .u16 n).wf = true) : 0 ≤ n ∧ n < 65536 := by
  simp [Lit.wf, IntKind.min, IntKind.max, IntKind.bits, IntKind.signed] at h
  omega
theorem wfs_i64 {n : Int} (h : (Lit.int .i64 n).wf = true) : In64 n := by
  simp [Lit.wf, IntKind.min, IntKind.max, IntKind.bits, IntKind.signed] at h
  unfold In64
  omega
/-- All blocks that are none of a store's are as they were. -/
def KeepT (w w' : World) : Prop := w.heap.size ≤ w'.heap.size ∧ ∀ (g : Nat) (cs : Array Value) (T : TypeId) (fr : Nat × Nat), w.heap[g]? = some (.cells cs T fr) → T ≠ 49 → T ≠ 53 → w'.heap[g]? = some (.cells cs T fr)
theorem KeepT.of {w w' : World} {base b : Nat} {room gap : Int} {v : Value} {L : List Ses} (hk : SeS w base b room gap v L) (hc : Chg w w' (SB b v)) : KeepT w w' := by
  refine ⟨hc.size, fun g cs T fr hg h1 h2 => ?_⟩
  rw [hc.block g (Array.getElem?_eq_some_iff.1 hg).1 (fun hs => ?_)]
  · exact hg
  · rcases hs with e | e
    · exact blk_types hg hk.cell h1 e
    · obtain ⟨cur, hcur⟩ := own_block hk.row e
      exact blk_types hg hcur h2 rfl
theorem KeepT.below {w w' : World} (h : Below w.heap.size w w') : KeepT w w' := ⟨h.size, fun g cs T fr hg _ _ => blk_below hg h⟩
theorem KeepT.trans {a b c : World} (h : KeepT a b) (k : KeepT b c) : KeepT a c := ⟨Nat.le_trans h.1 k.1, fun g cs T fr hg h1 h2 => k.2 g cs T fr (h.2 g cs T fr hg h1 h2) h1 h2⟩
theorem KeepT.own {w w' : World} (h : KeepT w w') {base n : Nat} {v : Value} {xs : List Value} (ho : w.ownsRow base 33 5 v n xs) : w'.ownsRow base 33 5 v n xs :=
  own_kept ho fun j hj => by
    obtain ⟨cur, hcur⟩ := own_block ho hj
    rw [h.2 _ _ _ _ hcur (by decide) (by decide), hcur]
structure St1 (w0 w : World) (b : Nat) (room gap : Int) (L : List Ses) : Prop where
  k : ∃ v, SeS w w0.heap.size b room gap v L
  bl : Below w0.heap.size w0 w
structure St2 (w0 w : World) (b1 : Nat) (r1 g1 : Int) (L1 : List Ses) (b2 : Nat) (r2 g2 : Int) (L2 : List Ses) : Prop where
  k : ∃ v1 v2, SeS w w0.heap.size b1 r1 g1 v1 L1 ∧ SeS w w0.heap.size b2 r2 g2 v2 L2 ∧ Away b1 v1 b2 v2
  bl : Below w0.heap.size w0 w
/-- What Put tells. -/
def PutOut (w : World) (M : List S33) (code : Int) (e : Ending) (w' : World) : Prop :=
  ∃ A c, e = .returned (.tuple #[.slice A M.length c, .int .i64 code]) ∧ w'.ownsRow w.heap.size 33 5 (.slice A M.length c) M.length (cellsC M)
section
variable {w0 w w1 : World} {b b1 b2 : Nat} {room gap r1 r2 g1 g2 : Int} {L L1 L2 L' : List Ses} {F : FuncId} {args : Array Value} {x : Value}
theorem St1.below (h : St1 w0 w b room gap L) (hb : Below w.heap.size w w1) : St1 w0 w1 b room gap L := by
  obtain ⟨⟨v, hk⟩, hl⟩ := h
  exact ⟨⟨v, hk.below hb⟩, below_step hl hb⟩
theorem St2.below (h : St2 w0 w b1 r1 g1 L1 b2 r2 g2 L2) (hb : Below w.heap.size w w1) : St2 w0 w1 b1 r1 g1 L1 b2 r2 g2 L2 := by
  obtain ⟨⟨v1, v2, h1, h2, ha⟩, hl⟩ := h
  exact ⟨⟨v1, v2, h1.below hb, h2.below hb, ha⟩, below_step hl hb⟩
theorem St2.symm (h : St2 w0 w b1 r1 g1 L1 b2 r2 g2 L2) : St2 w0 w b2 r2 g2 L2 b1 r1 g1 L1 := by
  obtain ⟨⟨v1, v2, h1, h2, ha⟩, hl⟩ := h
  exact ⟨⟨v2, v1, h2, h1, ha.symm⟩, hl⟩
theorem St2.one (h : St2 w0 w b1 r1 g1 L1 b2 r2 g2 L2) : St1 w0 w b1 r1 g1 L1 := by
  obtain ⟨⟨v1, v2, k1, k2, ha⟩, hl⟩ := h
  exact ⟨⟨v1, k1⟩, hl⟩
/-- A call that turns one store: what it tells is R. -/
theorem St1.turn {P R : Ending → World → Prop} (h : St1 w0 w b room gap L) (hc : ∀ v, SeS w w0.heap.size b room gap v L → Calls Try.prog F args w P)
    (hp : ∀ v e w', P e w' → R e w' ∧ (SeS w w0.heap.size b room gap v L → ∃ v', SeS w' w0.heap.size b room gap v' L' ∧ Chg w w' (SB b v) ∧ Hat v v' w.heap.size)) :
    Calls Try.prog F args w fun e w' => R e w' ∧ St1 w0 w' b room gap L' ∧ KeepT w w' := by
  obtain ⟨⟨v, hk⟩, hl⟩ := h
  refine (hc v hk).mono fun e w' h => ?_
  obtain ⟨hr, hs⟩ := hp v e w' h
  obtain ⟨v', h1, h2, h3⟩ := hs hk
  exact ⟨hr, ⟨⟨v', h1⟩, Chg.below hl h2 hl.size fun k hk' => (hk.sb k hk').1⟩, KeepT.of hk h2⟩
theorem St1.bs (h : St1 w0 w b room gap L) : w0.heap.size ≤ w.heap.size := h.bl.size
theorem St1.put (h : St1 w0 w b room gap L) (key t val : Int) (hk : In64 key) (hv : In64 val) :
    Calls Try.prog 10 #[.pointer (some ⟨b, 0, none⟩), .int .i64 key, .int .i64 t, .int .i64 val] w fun e w' => PutOut w (putM room gap L key t val) (putE room gap L key t) e w' ∧ St1 w0 w' b room gap (putL room gap L key t val) ∧ KeepT w w' := by
  obtain ⟨⟨v, hs⟩, hl⟩ := h
  refine (put_ok _ b room gap v L key t val w hs hl.size hk hv).mono ?_
  rintro e w' ⟨v', A, c, he, ho, h1, h2, h3⟩
  exact ⟨⟨A, c, he, ho⟩, ⟨⟨v', h1⟩, Chg.below hl h2 hl.size fun k hk' => (hs.sb k hk').1⟩, KeepT.of hs h2⟩
theorem St2.put (h : St2 w0 w b1 r1 g1 L1 b2 r2 g2 L2) (key t val : Int) (hk : In64 key) (hv : In64 val) :
    Calls Try.prog 10 #[.pointer (some ⟨b1, 0, none⟩), .int .i64 key, .int .i64 t, .int .i64 val] w fun e w' => PutOut w (putM r1 g1 L1 key t val) (putE r1 g1 L1 key t) e w' ∧ St2 w0 w' b1 r1 g1 (putL r1 g1 L1 key t val) b2 r2 g2 L2 ∧ KeepT w w' := by
  obtain ⟨⟨v1, v2, k1, k2, ha⟩, hl⟩ := h
  refine (put_ok _ b1 r1 g1 v1 L1 key t val w k1 hl.size hk hv).mono ?_
  rintro e w' ⟨v', A, c, he, ho, h1, h2, h3⟩
  exact ⟨⟨A, c, he, ho⟩, ⟨⟨v', v2, h1, k2.other h2 ha.symm, ha.hat h3 fun k hk => (k2.sb k hk).2⟩, Chg.below hl h2 hl.size fun k hk' => (k1.sb k hk').1⟩, KeepT.of k1 h2⟩
theorem St2.expire (h : St2 w0 w b1 r1 g1 L1 b2 r2 g2 L2) (before : Int) :
    Calls Try.prog 15 #[.pointer (some ⟨b1, 0, none⟩), .int .i64 before] w fun e w' => (∃ v0, e = .returned v0 ∧ w'.ownsRow w.heap.size 33 5 v0 (expM g1 before L1).length (cellsC (expM g1 before L1))) ∧ St2 w0 w' b1 r1 g1 (expL g1 before L1) b2 r2 g2 L2 ∧ KeepT w w' := by
  obtain ⟨⟨v1, v2, k1, k2, ha⟩, hl⟩ := h
  refine (expire_ok _ b1 r1 g1 before v1 L1 w k1 hl.size).mono ?_
  rintro e w' ⟨v', v0, he, ho, h1, h2, h3⟩
  exact ⟨⟨v0, he, ho⟩, ⟨⟨v', v2, h1, k2.other h2 ha.symm, ha.hat h3 fun k hk => (k2.sb k hk).2⟩, Chg.below hl h2 hl.size fun k hk' => (k1.sb k hk').1⟩, KeepT.of k1 h2⟩
theorem St2.do (h : St2 w0 w b1 r1 g1 L1 b2 r2 g2 L2) (c : S33) (hc : OkC r1 L1 c) :
    Calls Try.prog 16 #[.pointer (some ⟨b1, 0, none⟩), .agg #[.int .i64 c.f0, .int .i64 c.f1, .int .i64 c.f2, .int .i64 c.f3, .bool c.f4]] w fun e w' => e = .returned (.int .i64 0) ∧ St2 w0 w' b1 r1 g1 (doC L1 c) b2 r2 g2 L2 ∧ KeepT w w' := by
  obtain ⟨⟨v1, v2, k1, k2, ha⟩, hl⟩ := h
  refine (do_ok _ b1 r1 g1 v1 L1 c w k1 hl.size hc).mono ?_
  rintro e w' ⟨v', he, h1, h2, h3⟩
  exact ⟨he, ⟨⟨v', v2, h1, k2.other h2 ha.symm, ha.hat h3 fun k hk => (k2.sb k hk).2⟩, Chg.below hl h2 hl.size fun k hk' => (k1.sb k hk').1⟩, KeepT.of k1 h2⟩
theorem St1.len (h : St1 w0 w b room gap L) : Calls Try.prog 11 #[.pointer (some ⟨b, 0, none⟩)] w fun e w' => e = .returned (.int .i64 (L.length : Nat)) ∧ w = w' := by
  obtain ⟨⟨v, hk⟩, hl⟩ := h
  exact len_ok _ b room gap v L w hk
theorem St1.list (h : St1 w0 w b room gap L) : Calls Try.prog 13 #[.pointer (some ⟨b, 0, none⟩)] w (RowOut w (L.map chgOf)) := by
  obtain ⟨⟨v, hk⟩, hl⟩ := h
  exact list_ok _ b room gap v L w hk
theorem St1.find (h : St1 w0 w b room gap L) (key t : Int) : Calls Try.prog 12 #[.pointer (some ⟨b, 0, none⟩), .int .i64 key, .int .i64 t] w (RowOut w ((findM gap L key t).map chgOf)) := by
  obtain ⟨⟨v, hk⟩, hl⟩ := h
  exact find_ok _ b room gap v L key t w hk
theorem St1.kv (h : St1 w0 w b room gap L) : Rise L ∧ (∀ p ∈ L, Span p) ∧ (∀ p ∈ L, In64 p.k ∧ In64 p.v) ∧ L.length ≤ 1024 := by
  obtain ⟨⟨v, hk⟩, hl⟩ := h
  exact ⟨hk.rise, hk.span, hk.keys, hk.len⟩
end
theorem new1 (room gap : Int) (w0 w : World) (hb : Below w0.heap.size w0 w) (h1 : 1 ≤ room) (h2 : room ≤ 1024) (h3 : 1 ≤ gap) (h4 : gap ≤ 1048576) : Calls Try.prog 9 #[.int .i64 room, .int .i64 gap] w fun e w' => ∃ b, e = .returned (.tuple #[.pointer (some ⟨b, 0, none⟩), .int .i64 0]) ∧ St1 w0 w' b room gap [] ∧ Below w.heap.size w w' := by
  refine (new_ok room gap w h1 h2 h3 h4).mono ?_
  rintro e w' ⟨b, rfl, hk, hb2, _⟩
  exact ⟨b, rfl, ⟨⟨_, hk.lower hb.size⟩, below_step hb hb2⟩, hb2⟩
theorem new2 {b : Nat} {r g : Int} {L : List Ses} (room gap : Int) (w0 w : World) (h : St1 w0 w b r g L) (h1 : 1 ≤ room) (h2 : room ≤ 1024) (h3 : 1 ≤ gap) (h4 : gap ≤ 1048576) : Calls Try.prog 9 #[.int .i64 room, .int .i64 gap] w fun e w' => ∃ b2, e = .returned (.tuple #[.pointer (some ⟨b2, 0, none⟩), .int .i64 0]) ∧ St2 w0 w' b r g L b2 room gap [] := by
  refine (new_ok room gap w h1 h2 h3 h4).mono ?_
  rintro e w' ⟨b2, rfl, hk, hb2, hl⟩
  obtain ⟨⟨v, hv⟩, hbl⟩ := h
  refine ⟨b2, rfl, ⟨v, _, hv.below hb2, hk.lower hbl.size, fun k hk1 hk2 => ?_⟩, below_step hbl hb2⟩
  have e1 := (hv.sb k hk1).2
  have e2 := (hk.sb k hk2).1
  omega
/-- Two lists of changes are the same, if they are. -/
theorem changes_ev (M : List S33) (hl : M.length ≤ 1099511627776) : ∃ k, tidemillref12_Changes.f k M M = some true := by
  have step : ∀ (d : Nat) (k : Nat) (i : Nat), i + d = M.length → d < k → M.length ≤ 1099511627776 → tidemillref12_Changes.l0 k M M i = some true := by
    intro d
    induction d with
    | zero =>
      intro k i hi hk hl
      obtain ⟨k, rfl⟩ : ∃ m, k = m + 1 := ⟨k - 1, by omega⟩
      simp only [tidemillref12_Changes.l0]
      rw [if_neg (by omega)]
    | succ d ih =>
      intro k i hi hk hl
      obtain ⟨k, rfl⟩ : ∃ m, k = m + 1 := ⟨k - 1, by omega⟩
      have h := ih k (i + 1) (by omega) (by omega) hl
      simp only [tidemillref12_Changes.l0]
      rw [if_pos (by omega), if_pos (by omega), if_pos (by omega), if_neg (by simp), show wrap64 ((i : Int) + 1) = ((i + 1 : Nat) : Int) by unfold wrap64; omega]
      exact h
  refine ⟨M.length + 1, ?_⟩
  unfold tidemillref12_Changes.f
  rw [if_pos rfl]
  exact step M.length (M.length + 1) 0 (by omega) (by omega) hl
/-- .. as a call. -/
theorem changes_same (M : List S33) (n : Nat) (hn : M.length = n) (hl : n ≤ 1099511627776) (A0 : Option Addr) (c0 : Nat) (A1 : Option Addr) (c1 : Nat) (w : World) (hr0 : Kd.C k33 w A0 n M) (hc0 : n ≤ c0) (hr1 : Kd.C k33 w A1 n M) (hc1 : n ≤ c1) :
    Calls Try.prog 14 #[.slice A0 n c0, .slice A1 n c1] w fun e w' => e = .returned (.bool true) ∧ Below w.heap.size w w' := by
  subst hn
  obtain ⟨k, hk⟩ := changes_ev M hl
  exact (tidemillref12_Changes.calls k A0 c0 M A1 c1 M true w hr0 hc0 hr1 hc1 hk).mono fun e w' h => ⟨h.1, h.2.below⟩
/-- A row of changes, out of its own block. -/
theorem C_own {w : World} {base n : Nat} {A : Option Addr} {c : Nat} {M : List S33} (h : w.ownsRow base 33 5 (.slice A n c) n (cellsC M)) : Kd.C k33 w A n M ∧ n ≤ c := by
  obtain ⟨h1, h2, h3⟩ := C_of_own h
  rw [h2] at h1
  exact ⟨h1, h3⟩
end Go.Proofs.Ytpjfmilokadchaa.Se
