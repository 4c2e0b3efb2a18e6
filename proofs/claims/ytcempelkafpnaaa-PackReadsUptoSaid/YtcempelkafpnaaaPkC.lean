/- Contracts of pack's writers, in plain words: out of the printed ones. -/
import Derived.Outline
import Derived.Test.YtcempelkafpnaaaPkB
import Derived.Test.YtcempelkafpnaaaPPackLaysx1
namespace Go.Proofs.Ytcempelkafpnaaa.Pk
open Go Go.RowKit Go.Proofs.YtcempelkafpnaaaW.PrintWords Go.Proofs.YtcempelkafpnaaaW.PrintLast Go.Proofs.YtcempelkafpnaaaW.PrintMore Go.Proofs.Ytcempelkafpnaaa.PPackLays
set_option linter.unusedVariables false
set_option linter.unusedSimpArgs false

theorem uintL (k : Nat) : ∀ (x : List Int) (n : Int), 0 ≤ n → n < 128 ^ k * 128 → x.length + k + 1 < 140737488355328 → pack_Uint.l0 (k + 1) x n = some (x ++ enc n) := by
  induction k with
  | zero =>
    intro x n h0 h hx
    simp only [pack_Uint.l0]
    rw [if_neg (by omega), if_pos (by omega), enc_lt h0 (by omega), show n % 256 = n by omega]
  | succ k ih =>
    intro x n h0 h hx
    rw [pack_Uint.l0]
    by_cases hn : n ≥ 128
    · rw [if_pos hn, if_pos (by omega), ih _ _ (by omega) (by rw [Int.pow_succ] at h; omega) (by rw [List.length_append, List.length_singleton]; omega), enc_ge hn]
      have hb : bits .or .u8 (n % 256) 128 = n % 128 + 128 := by
        rw [u8_or _ _ (by omega) (by omega) (by omega) (by omega)]
        have : ∀ m : Nat, m < 256 → (m ||| (128 : Int).toNat) = m % 128 + 128 := by decide +kernel
        rw [this _ (by omega)]
        omega
      rw [hb, List.append_assoc, List.singleton_append]
    · rw [if_neg hn, if_pos (by omega), enc_lt h0 (by omega), show n % 256 = n by omega]
theorem uintF (x : List Int) (n : Int) (h0 : 0 ≤ n) (h : n < 18446744073709551616) (hx : x.length + 10 < 140737488355328) : pack_Uint.f 10 x n = some (x ++ enc n) := by
  unfold pack_Uint.f
  simp only [Option.bind_some, List.length_nil, List.nil_append]
  rw [if_pos (by omega)]
  exact uintL 9 x n h0 (by
    have e : (128 : Int) ^ 9 * 128 = 1180591620717411303424 := by decide
    rw [e]
    omega) (by omega)
/-- The post of whatever lays bytes down. -/
def Laid (l : List Int) (w : World) (e : Ending) (w' : World) : Prop := ∃ v, e = .returned v ∧ (Kd.int .u8).R 5 w' w.heap.size (fun _ => True) v l ∧ Below w.heap.size w w'
theorem puint (A0 : Option Addr) (c0 : Nat) (l0 : List Int) (n : Int) (w : World) (hr : (Kd.int .u8).C w A0 l0.length l0) (hc : l0.length ≤ c0) (h0 : 0 ≤ n) (h : n < 18446744073709551616) (hx : l0.length + 10 < 140737488355328) :
    Calls Try.prog 14 #[.slice A0 l0.length c0, .int .u64 n] w (Laid (l0 ++ enc n) w) :=
  pack_Uint.calls 10 A0 c0 l0 n _ w hr hc (uintF l0 n h0 h hx)
theorem pint (A0 : Option Addr) (c0 : Nat) (l0 : List Int) (n : Int) (w : World) (hr : (Kd.int .u8).C w A0 l0.length l0) (hc : l0.length ≤ c0) (h0 : -9223372036854775808 ≤ n) (h : n ≤ 9223372036854775807) (hx : l0.length + 10 < 140737488355328) :
    Calls Try.prog 16 #[.slice A0 l0.length c0, .int .i64 n] w (Laid (l0 ++ enc (uns n)) w) :=
  pack_Int.calls 10 A0 c0 l0 n _ w hr hc (by
    unfold pack_Int.f
    rw [uns_bits h0 h, uintF l0 _ (uns_range h0 h).1 (uns_range h0 h).2 hx]
    rfl)
theorem puint_nil (n : Int) (w : World) (h0 : 0 ≤ n) (h : n < 18446744073709551616) : Calls Try.prog 14 #[.slice none 0 0, .int .u64 n] w (Laid (enc n) w) :=
  puint none 0 [] n w (Kd.C_nil _ _) (Nat.le_refl _) h0 h (by simp)
theorem pint_nil (n : Int) (w : World) (h0 : -9223372036854775808 ≤ n) (h : n ≤ 9223372036854775807) : Calls Try.prog 16 #[.slice none 0 0, .int .i64 n] w (Laid (enc (uns n)) w) :=
  pint none 0 [] n w (Kd.C_nil _ _) (Nat.le_refl _) h0 h (by simp)
theorem Byt.append {a b : List Int} (h : Byt a) (k : Byt b) : Byt (a ++ b) := fun x hx => (List.mem_append.1 hx).elim (h x) (k x)
/-- A literal of whole numbers. -/
theorem C_lit (k : IntKind) (e : TypeId) (w : World) (xs : List Int) (cs : Array Value) (h : cs = (nums k xs).toArray) (hm : xs.length ≤ 9223372036854775807) : (Kd.int k).C (w.alloc (.cells cs e)) (some ⟨w.heap.size, 0, none⟩) xs.length xs := by
  refine ⟨rfl, hm, fun _ => ⟨_, rfl, fun j p hj => ⟨[.int k p], rfl, rfl, fun i u hu => ?_⟩⟩⟩
  have hi : i = 0 ∧ Value.int k p = u := by
    cases i with
    | zero => simpa using hu
    | succ i => simp at hu
  obtain ⟨rfl, rfl⟩ := hi
  show World.cell? _ ((⟨w.heap.size, 0, none⟩ : Addr).add (j * 1 + 0)) = _
  rw [add_plain, Nat.mul_one, Nat.add_zero]
  have hb := heap_alloc_new w (.cells cs e)
  rw [cell_of_row _ _ _ _ _ _ hb]
  simp [h, nums, hj]
/-- Bytes as a string. -/
theorem R_str {w : World} {base : Nat} {ok : Nat → Prop} {v : Value} {xs : List Int} (h : (Kd.int .u8).R 5 w base ok v xs) : (convert 22 9 v).run Try.prog w = .ok (.string (strOfNums xs)) w :=
  own_string Try.underlying22 Try.underlying5 Try.underlying9 (Kd.own_of_R h)
theorem C_str {w : World} {A : Option Addr} {n c : Nat} {xs : List Int} (h : (Kd.int .u8).C w A n xs) : (convert 22 9 (.slice A n c)).run Try.prog w = .ok (.string (strOfNums xs)) w :=
  Kd.C_string Try.underlying22 Try.underlying5 Try.underlying9 h
theorem wfr_i64 {n : Int} (h : (Lit.int .i64 n).wf = true) : -9223372036854775808 ≤ n ∧ n ≤ 9223372036854775807 := by
  simp [Lit.wf, IntKind.min, IntKind.max, IntKind.bits, IntKind.signed] at h
  omega
theorem wfr_u64 {n : Int} (h : (Lit.int .u64 n).wf = true) : 0 ≤ n ∧ n < 18446744073709551616 := by
  simp [Lit.wf, IntKind.min, IntKind.max, IntKind.bits, IntKind.signed] at h
  omega
theorem wfr_u8 {n : Int} (h : (Lit.int .u8 n).wf = true) : 0 ≤ n ∧ n < 256 := by
  simp [Lit.wf, IntKind.min, IntKind.max, IntKind.bits, IntKind.signed] at h
  omega
theorem wfr_i32 {n : Int} (h : (Lit.int .i32 n).wf = true) : -2147483648 ≤ n ∧ n ≤ 2147483647 := by
  simp [Lit.wf, IntKind.min, IntKind.max, IntKind.bits, IntKind.signed] at h
  omega
/-- A region that draws its order: what is known of the worlds to come may be told better. -/
theorem stronger_ {P : Program} {ops : Array Oper} {Q : Exit → Act → World → Prop} {md : Region.Mode} {S : World → Prop} (S' : World → Prop) (hS : ∀ w, S' w → S w) : ∀ {fuel : Nat} {l : Array Bool} {a : Act} {w : World},
    S' w → wpAnyLast P md ops Q S' [] fuel l a w → wpAnyLast P md ops Q S [] fuel l a w
  | 0, _, _, _, _, h => h
  | fuel + 1, l, a, w, h0, h => ⟨h.1, fun i hi => wpOp_mono (fun a' w' h' => ⟨fun hn _ => hS w' (h'.1 hn h0), stronger_ S' hS (h'.1 (by simp) h0) h'.2⟩) (h.2 i hi)⟩
theorem byt_nil : Byt [] := fun x hx => absurd hx (by simp)
end Go.Proofs.Ytcempelkafpnaaa.Pk
