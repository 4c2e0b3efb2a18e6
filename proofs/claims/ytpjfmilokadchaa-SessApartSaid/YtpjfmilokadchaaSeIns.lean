/- slices.Insert and slices.Delete at sessions. -/
import Derived.Test.YtpjfmilokadchaaSeBase
import Derived.Shelf.RegionOpenPlain
import Derived.Lib.JoinLaws
import Derived.Laws.Externs
import Derived.Laws.EntriesVeiled
namespace Go.Proofs.Ytpjfmilokadchaa.Se
open Go Go.RowKit Go.Proofs.YtpjfmilokadchaaW.PrintWords Go.Proofs.YtpjfmilokadchaaW.PrintLast Go.Proofs.YtpjfmilokadchaaW.PrintMore Go.Proofs.Ytpjfmilokadchaa.Rw
set_option linter.unusedVariables false
set_option linter.unusedSimpArgs false
theorem infoP : (Try.prog.info? 53).map (fun i => (i.zero, i.size, i.bytes)) = some (some (.agg #[.int .i64 0, .complex .f64 0 0, .int .i64 0]), 3, 32) := by kernel_rfl
theorem sizeP : (Try.prog.info? 53).map (·.size) = some 3 := by kernel_rfl
theorem sizeOfP (w : World) : (Go.sizeOf 53).run Try.prog w = .ok 3 w := by kernel_rfl
theorem zeroP (w : World) : (zeroValue 53).run Try.prog w = .ok (.agg #[.int .i64 0, .complex .f64 0 0, .int .i64 0]) w := by kernel_rfl
theorem infoP' : ∃ i, Try.prog.info? 53 = some i ∧ i.zero = some (.agg #[.int .i64 0, .complex .f64 0 0, .int .i64 0]) ∧ i.size = 3 ∧ i.bytes = 32 := by
  have h := infoP
  cases hq : Try.prog.info? 53 with
  | none => rw [hq] at h; cases h
  | some i =>
    rw [hq] at h
    simp only [Option.map_some, Option.some.injEq, Prod.mk.injEq] at h
    exact ⟨i, rfl, h.1, h.2.1, h.2.2⟩
theorem shape_row {w : World} {g : Nat} {cur : Array Value} {e : TypeId} (hg : w.heap[g]? = some (.cells cur e (0, 0))) : w.shape? g = some (e, cur.size) := by
  simp [World.shape?, hg]
theorem frozen_row {w : World} {g : Nat} {cur : Array Value} {e : TypeId} (hg : w.heap[g]? = some (.cells cur e (0, 0))) (j : Nat) : w.frozen? ⟨g, j, none⟩ = false := by
  simp [World.frozen?, hg]
theorem drop_app {α : Type} (a b : List α) {k : Nat} (m : Nat) (h : a.length + m = k) : (a ++ b).drop k = b.drop m := by
  subst h
  rw [List.drop_append, List.drop_of_length_le (by omega), List.nil_append, Nat.add_sub_cancel_left]
theorem take_app {α : Type} (a b : List α) {k : Nat} (h : a.length = k) : (a ++ b).take k = a := by
  subst h
  exact List.take_left
theorem mixed_ : Try.prog.follows Departure.mixedOrders = true := by kernel_rfl
/-- What becomes of a row v that is called on. -/
def RowPost (base n : Nat) (v : Value) (ys : List Value) (w : World) (e : Ending) (w' : World) : Prop :=
  ∃ v', e = .returned v' ∧ w'.ownsRow base 53 3 v' n ys ∧ w.grownBy w' v.ownBlock ∧ Hat v v' w.heap.size
set_option maxHeartbeats 1000000 in
theorem ins_end (base n vb vc : Nat) (v : Value) (xs : List Value) (x y z : Value) (w : World) (hown : w.ownsRow base 53 3 v n xs) (hv : w.heap[vb]? = some (.cells #[x, y, z] 53 (0, 0))) (hx : x.oneCell' = true) (hy : y.oneCell' = true) (hz : z.oneCell' = true) (hb : base ≤ w.heap.size) (hn : n ≤ 5000) :
    Calls Try.prog 33 #[v, .int .i64 n, .slice (some ⟨vb, 0, none⟩) 1 vc] w (RowPost base (n + 1) v (xs ++ [x, y, z]) w) := by
  obtain ⟨i0, hi0, hz0, hzs, hzb⟩ := infoP'
  have hmax : 9000 ≤ maxLen := by decide
  obtain ⟨v', w', hr, ho', hg', _, hat⟩ := run_append_own_at (P := Try.prog) w base 47 47 53 i0 _ 3 32 Try.underlying47 hi0 hz0 hzs hzb (by rfl) (by omega) v n xs hown ⟨vb, 0, none⟩ 1 vc [x, y, z] rfl
    (fun j u hj => by rw [Addr.add_lit, Nat.zero_add, cell_row hv rfl]; exact hj) (by intro u hu; simp only [List.mem_cons, List.not_mem_nil, or_false] at hu; rcases hu with rfl | rfl | rfl <;> assumption) (by omega) (by omega) hb
  have HP : Aside0 (RowPost base (n + 1) v (xs ++ [x, y, z]) w (.returned v') w') := ⟨⟨v', rfl, ho', hg', by rcases hat with h | h; exact .inl h; exact .inr ⟨_, h, Nat.le_refl _⟩⟩⟩
  have HR := Aside0.mk hr
  have HS : ∃ A c, v = .slice A n c := by
    rcases hown.2 with ⟨rfl, rfl⟩ | ⟨g, cap, cur, rfl, _⟩
    · exact ⟨none, 0, rfl⟩
    · exact ⟨_, _, rfl⟩
  have hcap : ∀ A c, v = .slice A n c → n ≤ c := by
    intro A c e
    rcases hown.2 with ⟨rfl, rfl⟩ | ⟨g, cap, cur, rfl, _, _, h, _⟩
    · omega
    · injection e with _ _ e; omega
  obtain ⟨A, c, rfl⟩ := HS
  have hc1 := hcap _ _ rfl
  clear hr ho' hg' hat hown hv hx hy hcap
  by_cases hcn : c = n
  · subst hcn
    go_enter Try.func33, Try.ntmps33
    go_wp2_with (at_builtin; refine wpList_append_eq _ rfl _ _ 47 47 rfl _ _ rfl rfl HR.out ?_)
    go_ret
    exact HP.out
  · go_enter Try.func33, Try.ntmps33
    go_wp2_with (at_builtin; refine wpList_append_eq _ rfl _ _ 47 47 rfl _ _ rfl rfl HR.out ?_)
    go_ret
    exact HP.out
set_option maxHeartbeats 4000000 in
set_option maxRecDepth 100000 in
theorem ins_shift (base g n c i vb vc : Nat) (xs rest : List Value) (cur : Array Value) (x y z : Value) (w : World) (hbg : base ≤ g) (hg : w.heap[g]? = some (.cells cur 53 (0, 0))) (hcur : cur.toList = xs ++ rest) (hx : xs.length = n * 3) (hr : rest.length + n * 3 = c * 3) (hi : i < n) (hroom : n + 1 ≤ c) (hc : c ≤ maxLen)
    (hv : w.heap[vb]? = some (.cells #[x, y, z] 53 (0, 0))) (hne : vb ≠ g) (h1 : ∀ v ∈ xs, v.oneCell' = true) (hxo : x.oneCell' = true) (hyo : y.oneCell' = true) (hzo : z.oneCell' = true) (hn : n ≤ 5000) :
    Calls Try.prog 33 #[.slice (some ⟨g, 0, none⟩) n c, .int .i64 i, .slice (some ⟨vb, 0, none⟩) 1 vc] w (RowPost base (n + 1) (.slice (some ⟨g, 0, none⟩) n c) (xs.take (i * 3) ++ [x, y, z] ++ xs.drop (i * 3)) w) := by
  have hcs : cur.size = c * 3 := by rw [← Array.length_toList, hcur, List.length_append]; omega
  have hdl : (xs.drop (i * 3)).length = (n - i) * 3 := by rw [List.length_drop, hx]; omega
  have hov : ∀ lb cb, (callFunc 36 #[.slice (some ⟨vb, 0, none⟩) 1 vc, .slice (some ⟨g, (i + 1) * 3, none⟩) lb cb]).run Try.prog w = .ok (.value (.bool false)) w := fun lb cb => by
    rw [run_callFunc_extern Try.func36 (by kernel_rfl) (by kernel_rfl) (by kernel_rfl) (e := Extern.SlicesOverlaps.overlaps #[47, 47] #[4]) (by kernel_rfl),
      Lib.run_overlaps_apart w 47 4 53 Try.underlying47 3 sizeOfP ⟨vb, 0, none⟩ ⟨g, (i + 1) * 3, none⟩ 1 vc lb cb hne 53 53 3 cur.size (shape_row hv) (shape_row hg) (by omega) (frozen_row hv 0) (frozen_row hv 3)]
    rfl
  obtain ⟨c1, hc1⟩ : ∃ c1 : Array Value, c1 = (cur.toList.take ((i + 1) * 3) ++ xs.drop (i * 3) ++ cur.toList.drop ((i + 1) * 3 + (xs.drop (i * 3)).length)).toArray := ⟨_, rfl⟩
  obtain ⟨c2, hc2⟩ : ∃ c2 : Array Value, c2 = (c1.toList.take (i * 3) ++ [x, y, z] ++ c1.toList.drop (i * 3 + [x, y, z].length)).toArray := ⟨_, rfl⟩
  have hs1 : c1.size = c * 3 := by rw [hc1]; simp only [List.size_toArray, List.length_append, List.length_take, List.length_drop, Array.length_toList]; omega
  have hcp1 : ∀ (W : World), W.heap = w.heap → ∀ ty dc sc, (Builtin.copy_ #[47, 47] ty #[.slice (some ⟨g, (i + 1) * 3, none⟩) (n - i) dc, .slice (some ⟨g, i * 3, none⟩) (n + 1 - i) sc]).run Try.prog W = .ok (goInt (Nat.min (n + 1 - i) (n - i))) (W.setRow g c1) := fun W hW ty dc sc => by
    rw [hc1]
    exact run_copy_rowN W _ _ ty 53 3 g ((i + 1) * 3) (n - i) dc ⟨g, i * 3, none⟩ (n + 1 - i) sc cur 53 (xs.drop (i * 3)) Try.underlying47 sizeP (by rw [hW]; exact hg) (by rw [hdl]; simp only [Nat.min_def]; split <;> omega)
      (fun j v hj => by
        rw [Addr.add_lit, cell_row (by rw [hW]; exact hg) hcur]
        rw [List.getElem?_drop] at hj
        rw [List.getElem?_append_left (by have := (List.getElem?_eq_some_iff.1 hj).1; omega)]
        exact hj) (by rw [hdl]; omega) (fun v hv => h1 v (List.mem_of_mem_drop hv))
  have hcp2 : ∀ (W : World), W.heap[g]? = some (.cells c1 53 (0, 0)) → W.heap[vb]? = some (.cells #[x, y, z] 53 (0, 0)) → ∀ ty dc, (Builtin.copy_ #[47, 47] ty #[.slice (some ⟨g, i * 3, none⟩) (n + 1 - i) dc, .slice (some ⟨vb, 0, none⟩) 1 vc]).run Try.prog W = .ok (goInt (Nat.min 1 (n + 1 - i))) (W.setRow g c2) := fun W hW hWv ty dc => by
    rw [hc2]
    exact run_copy_rowN W _ _ ty 53 3 g (i * 3) (n + 1 - i) dc ⟨vb, 0, none⟩ 1 vc c1 53 [x, y, z] Try.underlying47 sizeP hW (by simp only [Nat.min_def]; split <;> first | rfl | omega)
      (fun j v hj => by rw [Addr.add_lit, Nat.zero_add, cell_row hWv rfl]; exact hj) (by rw [hs1]; simp; omega) (by intro u hu; simp only [List.mem_cons, List.not_mem_nil, or_false] at hu; rcases hu with rfl | rfl | rfl <;> assumption)
  have hfin : c2.toList = (xs.take (i * 3) ++ [x, y, z] ++ xs.drop (i * 3)) ++ rest.drop 3 := by
    rw [hc2, hc1, hcur]
    simp only [List.toList_toArray]
    have e1 : (xs ++ rest).take ((i + 1) * 3) = xs.take ((i + 1) * 3) := List.take_append_of_le_length (by omega)
    have e2 : (xs ++ rest).drop ((i + 1) * 3 + (xs.drop (i * 3)).length) = rest.drop 3 := by
      rw [hdl, show (i + 1) * 3 + (n - i) * 3 = xs.length + 3 by omega, List.drop_append, List.drop_of_length_le (by omega)]
      simp
    rw [e1, e2]
    have e3 : (xs.take ((i + 1) * 3) ++ xs.drop (i * 3) ++ rest.drop 3).take (i * 3) = xs.take (i * 3) := by
      rw [List.append_assoc, List.take_append_of_le_length (by rw [List.length_take]; omega), List.take_take, show min (i * 3) ((i + 1) * 3) = i * 3 by omega]
    have e4 : (xs.take ((i + 1) * 3) ++ xs.drop (i * 3) ++ rest.drop 3).drop (i * 3 + [x, y, z].length) = xs.drop (i * 3) ++ rest.drop 3 := by
      have h4 : (xs.take ((i + 1) * 3)).length = i * 3 + [x, y, z].length := by rw [List.length_take]; simp; omega
      rw [List.append_assoc, ← h4, List.drop_left]
    rw [e3, e4]
    simp
  have hrow : ∀ W : World, W.heap[g]? = some (.cells c2 53 (0, 0)) → W.ownsRow base 53 3 (.slice (some ⟨g, 0, none⟩) (n + 1) c) (n + 1) (xs.take (i * 3) ++ [x, y, z] ++ xs.drop (i * 3)) := fun W hW =>
    own_mk hbg hW hroom hc (by simp only [List.length_append, List.length_take, List.length_drop, List.length_cons, List.length_nil]; omega) (by rw [List.length_drop]; omega) hfin
  have HPost : Aside0 (∀ W : World, W.heap[g]? = some (.cells c1 53 (0, 0)) → w.grownBy W (some g) → RowPost base (n + 1) (.slice (some ⟨g, 0, none⟩) n c) (xs.take (i * 3) ++ [x, y, z] ++ xs.drop (i * 3)) w (.returned (.slice (some ⟨g, 0, none⟩) (n + 1) c)) (W.setRow g c2)) :=
    ⟨fun W hW hgr => ⟨_, rfl, hrow _ (setRow_heap W g _ _ _ _ hW), grown_trans hgr (grown_set W g c2), .inl rfl⟩⟩
  have hh1 : Aside0 ((w.setRow g c1).heap[g]? = some (.cells c1 53 (0, 0))) := ⟨setRow_heap w g cur _ _ _ hg⟩
  have hh2 : Aside0 ((w.setRow g c1).heap[vb]? = some (.cells #[x, y, z] 53 (0, 0))) := ⟨by rw [setRow_other w g vb _ hne]; exact hv⟩
  have HC1 := Aside0.mk hcp1
  have HC2 := Aside0.mk hcp2
  obtain ⟨ys, HYS⟩ : ∃ ys, Aside0 (xs.take (i * 3) ++ [x, y, z] ++ xs.drop (i * 3) = ys) := ⟨_, ⟨rfl⟩⟩
  rw [HYS.out] at HPost ⊢
  have mixed := mixed_
  have hmax : maxLen ≤ 9223372036854775807 := by decide
  have hz2 : ¬ ((i : Int) = (n : Int)) := by omega
  have hw1 : IntKind.i64.wrap ((i : Int) + 1) = (i : Int) + 1 := by rw [IntKind.wrap_i64]; omega
  have hb1 : (0 : Int) ≤ (i : Int) + 1 := by omega
  have hin : i ≤ n := by omega
  have htn : ((i : Int) + 1).toNat = i + 1 := by omega
  have hb2 : ¬ (c = i + 1) := by omega
  have hb3 : (i : Int) ≤ (n : Int) + 1 := by omega
  have hb4 : ¬ (c = i) := by omega
  clear hcp1 hcp2 hc1 hc2 hs1 hfin hrow hcur hx hr hdl hcs hg hv h1 hxo hyo hzo
  go_enter Try.func33, Try.ntmps33
  go_wp2_with (simp only [hov])
  go_region_law_o (refine step_copy_eq rfl _ _ 47 47 rfl (.slice (some ⟨g, (i + 1) * 3, none⟩) (n - i) (c - (i + 1))) (.slice (some ⟨g, i * 3, none⟩) (n + 1 - i) (c - i)) (by simp [Act.eval, Act.put]) (by simp [Act.eval, Act.put]) (HC1.out _ (by rfl) _ _ _) ?_)
  go_wp2_with (refine wpList_copy_eq _ rfl _ _ 47 47 (by rfl) _ _ (by rfl) (by rfl) (HC2.out _ (by exact hh1.out) (by exact hh2.out) _ _) ?_)
  go_ret
  exact HPost.out _ (by exact hh1.out) (by repeat (first | exact grown_refl w _ | (refine grown_trans ?_ (grown_set _ _ _)) | apply grown_drew))
theorem below_row {B : Nat} {a W : World} (h : Below B a W) {g : Nat} (hg : B ≤ g) (cs : Array Value) : Below B a (W.setRow g cs) :=
  ⟨h.os, h.tape, h.output, by simpa using h.size, fun k hk => (setRow_other W g k _ (by omega)).trans (h.block k hk)⟩
set_option maxHeartbeats 4000000 in
set_option maxRecDepth 100000 in
theorem ins_grow (base g n c i vb vc : Nat) (xs rest : List Value) (cur : Array Value) (x y z : Value) (w : World) (hbg : base ≤ w.heap.size) (hg : w.heap[g]? = some (.cells cur 53 (0, 0))) (hcur : cur.toList = xs ++ rest) (hx : xs.length = n * 3) (hi : i < n) (hnc : n ≤ c) (hroom : c < n + 1)
    (hv : w.heap[vb]? = some (.cells #[x, y, z] 53 (0, 0))) (h1 : ∀ v ∈ xs, v.oneCell' = true) (hxo : x.oneCell' = true) (hyo : y.oneCell' = true) (hzo : z.oneCell' = true) (hn : n ≤ 5000) :
    Calls Try.prog 33 #[.slice (some ⟨g, 0, none⟩) n c, .int .i64 i, .slice (some ⟨vb, 0, none⟩) 1 vc] w (RowPost base (n + 1) (.slice (some ⟨g, 0, none⟩) n c) (xs.take (i * 3) ++ [x, y, z] ++ xs.drop (i * 3)) w) := by
  obtain ⟨i0, hi0, hz0, hzs, hzb⟩ := infoP'
  have hdl : (xs.drop (i * 3)).length = (n - i) * 3 := by rw [List.length_drop, hx]; omega
  have htl : (xs.take (i * 3)).length = i * 3 := by rw [List.length_take, hx]; omega
  have hgw : g < w.heap.size := (Array.getElem?_eq_some_iff.1 hg).1
  have hvw : vb < w.heap.size := (Array.getElem?_eq_some_iff.1 hv).1
  have hik : i + (n + 1 - i) = n + 1 := by omega
  have hkk : (n : Int) + 1 - (i : Int) = ((n + 1 - i : Nat) : Int) := by omega
  have hold : (Builtin.firstCells i0.size i (.slice (some ⟨g, 0, none⟩) i c)).run Try.prog w.drew = .ok (xs.take (i * 3)).toArray w.drew := by
    rw [hzs]
    exact run_firstCells_some w.drew 3 i ⟨g, 0, none⟩ i c (xs.take (i * 3)) htl (fun j v hj => by
      rw [Addr.add_lit, Nat.zero_add, cell_row (w := w.drew) hg hcur]
      rw [List.getElem?_take] at hj
      split at hj
      · rw [List.getElem?_append_left (by omega)]; exact hj
      · cases hj)
  obtain ⟨G, hG⟩ : ∃ G, G = grownCap w (n + 1) c 53 := ⟨_, rfl⟩
  obtain ⟨Z1, hZ1⟩ : ∃ Z : List Value, Z = (Builtin.zeroCells (Value.agg #[.int .i64 0, .complex .f64 0 0, .int .i64 0]).cells (n + 1 - i)).toList := ⟨_, rfl⟩
  obtain ⟨Z2, hZ2⟩ : ∃ Z : List Value, Z = (Builtin.zeroCells (Value.agg #[.int .i64 0, .complex .f64 0 0, .int .i64 0]).cells (G - (n + 1))).toList := ⟨_, rfl⟩
  have hl1 : Z1.length = (n + 1 - i) * 3 := by rw [hZ1]; simp [Builtin.zeroCells, Value.cells]
  have hl2 : Z2.length = (G - (n + 1)) * 3 := by rw [hZ2]; simp [Builtin.zeroCells, Value.cells]
  obtain ⟨ROW, hROW⟩ : ∃ ROW : Array Value, ROW = (xs.take (i * 3) ++ Z1 ++ Z2).toArray := ⟨_, rfl⟩
  have hGn : n + 1 ≤ G := by rw [hG]; exact grownCap_ge w _ _ _
  have hmax : maxLen ≤ 9223372036854775807 := by decide
  have hmax2 : 9000 ≤ maxLen := by decide
  have hGm : G ≤ maxLen := by rw [hG]; exact grownCap_le_maxLen w (n + 1) c 53 (by omega)
  have hrz : ∀ ty, (Builtin.append_ #[47, 3] ty #[.slice (some ⟨g, 0, none⟩) i c, .int .i64 ((n : Int) + 1 - (i : Int))]).run Try.prog w = .ok (.slice (some ⟨w.heap.size, 0, none⟩) (n + 1) G) (w.drew.alloc (.cells ROW 53)) := fun ty => by
    have h := Lib.run_append_grow_zeros w 47 3 ty 53 i0 _ .i64 .i64 Try.underlying47 Try.underlying3 hi0 hz0 (some ⟨g, 0, none⟩) i c (xs.take (i * 3)) hold (n + 1 - i) (by omega) (by omega) (by omega) (by omega) (by rw [hzb]; omega) (by rw [hzb, hik]; exact growslice_fits hroom (by omega))
    rw [hik, ← hG] at h
    rw [hkk, h, hROW, hZ1, hZ2]
    congr 4
    apply Array.ext'
    simp
  obtain ⟨c1, hc1⟩ : ∃ c1 : Array Value, c1 = (ROW.toList.take (i * 3) ++ [x, y, z] ++ ROW.toList.drop (i * 3 + [x, y, z].length)).toArray := ⟨_, rfl⟩
  obtain ⟨c2, hc2⟩ : ∃ c2 : Array Value, c2 = (c1.toList.take ((i + 1) * 3) ++ xs.drop (i * 3) ++ c1.toList.drop ((i + 1) * 3 + (xs.drop (i * 3)).length)).toArray := ⟨_, rfl⟩
  have hRs : ROW.size = G * 3 := by rw [hROW]; simp only [List.size_toArray, List.length_append, htl, hl1, hl2]; omega
  have hs1 : c1.size = G * 3 := by rw [hc1]; simp only [List.size_toArray, List.length_append, List.length_take, List.length_drop, Array.length_toList, List.length_cons, List.length_nil]; omega
  have hcpA : ∀ (W : World), W.heap[w.heap.size]? = some (.cells ROW 53 (0, 0)) → W.heap[vb]? = some (.cells #[x, y, z] 53 (0, 0)) → ∀ ty dc, (Builtin.copy_ #[47, 47] ty #[.slice (some ⟨w.heap.size, i * 3, none⟩) (n + 1 - i) dc, .slice (some ⟨vb, 0, none⟩) 1 vc]).run Try.prog W = .ok (goInt (Nat.min 1 (n + 1 - i))) (W.setRow w.heap.size c1) := fun W hW hWv ty dc => by
    rw [hc1]
    exact run_copy_rowN W _ _ ty 53 3 w.heap.size (i * 3) (n + 1 - i) dc ⟨vb, 0, none⟩ 1 vc ROW 53 [x, y, z] Try.underlying47 sizeP hW (by simp only [Nat.min_def]; split <;> first | rfl | omega)
      (fun j v hj => by rw [Addr.add_lit, Nat.zero_add, cell_row hWv rfl]; exact hj) (by rw [hRs]; simp; omega) (by intro u hu; simp only [List.mem_cons, List.not_mem_nil, or_false] at hu; rcases hu with rfl | rfl | rfl <;> assumption)
  have hcpB : ∀ (W : World), W.heap[w.heap.size]? = some (.cells c1 53 (0, 0)) → W.heap[g]? = some (.cells cur 53 (0, 0)) → ∀ ty dc sc, (Builtin.copy_ #[47, 47] ty #[.slice (some ⟨w.heap.size, (i + 1) * 3, none⟩) (n - i) dc, .slice (some ⟨g, i * 3, none⟩) (n - i) sc]).run Try.prog W = .ok (goInt (Nat.min (n - i) (n - i))) (W.setRow w.heap.size c2) := fun W hW hWg ty dc sc => by
    rw [hc2]
    exact run_copy_rowN W _ _ ty 53 3 w.heap.size ((i + 1) * 3) (n - i) dc ⟨g, i * 3, none⟩ (n - i) sc c1 53 (xs.drop (i * 3)) Try.underlying47 sizeP hW (by rw [hdl]; simp only [Nat.min_def]; split <;> omega)
      (fun j v hj => by
        rw [Addr.add_lit, cell_row hWg hcur]
        rw [List.getElem?_drop] at hj
        rw [List.getElem?_append_left (by have := (List.getElem?_eq_some_iff.1 hj).1; omega)]
        exact hj) (by rw [hdl]; omega) (fun v hv => h1 v (List.mem_of_mem_drop hv))
  have hfin : c2.toList = (xs.take (i * 3) ++ [x, y, z] ++ xs.drop (i * 3)) ++ Z2 := by
    rw [hc2, hc1, hROW]
    simp only [List.toList_toArray]
    have e1 : (xs.take (i * 3) ++ Z1 ++ Z2).take (i * 3) = xs.take (i * 3) := by rw [List.append_assoc]; exact take_app _ _ htl
    have e2 : (xs.take (i * 3) ++ Z1 ++ Z2).drop (i * 3 + [x, y, z].length) = Z1.drop 3 ++ Z2 := by
      rw [List.append_assoc, drop_app (xs.take (i * 3)) (Z1 ++ Z2) 3 (by rw [htl]; rfl), List.drop_append_of_le_length (by omega)]
    rw [e1, e2]
    have h3 : (xs.take (i * 3) ++ [x, y, z]).length = (i + 1) * 3 := by rw [List.length_append, htl]; simp; omega
    rw [take_app _ _ h3, drop_app (xs.take (i * 3) ++ [x, y, z]) (Z1.drop 3 ++ Z2) ((n - i) * 3) (by rw [h3, hdl]), drop_app (Z1.drop 3) Z2 0 (by rw [List.length_drop]; omega)]
    rfl
  have HPost : Aside0 (∀ W : World, W.heap[w.heap.size]? = some (.cells c1 53 (0, 0)) → Below w.heap.size w W → RowPost base (n + 1) (.slice (some ⟨g, 0, none⟩) n c) (xs.take (i * 3) ++ [x, y, z] ++ xs.drop (i * 3)) w (.returned (.slice (some ⟨w.heap.size, 0, none⟩) (n + 1) G)) (W.setRow w.heap.size c2)) :=
    ⟨fun W hW hb => ⟨_, rfl, own_mk hbg (setRow_heap W _ _ _ _ _ hW) hGn hGm (by simp only [List.length_append, List.length_take, List.length_drop, List.length_cons, List.length_nil]; omega) (by rw [hl2]; omega) hfin, grown_below (below_row hb (Nat.le_refl _) c2) _, .inr ⟨_, rfl, Nat.le_refl _⟩⟩⟩
  have hb1 : Below w.heap.size w (w.alloc (.cells ROW 53)) := below_alloc (Below.refl _ _) _
  have hn1 : (w.alloc (.cells ROW 53)).heap[w.heap.size]? = some (.cells ROW 53 (0, 0)) := heap_alloc_new w _
  have ha1 := Aside0.mk hn1
  have ha2 := Aside0.mk ((hb1.block vb hvw).trans hv)
  have hb2 : Below w.heap.size w ((w.alloc (.cells ROW 53)).setRow w.heap.size c1) := below_row hb1 (Nat.le_refl _) c1
  have ha3 := Aside0.mk (setRow_heap (w.alloc (.cells ROW 53)) w.heap.size _ c1 _ _ hn1)
  have ha4 := Aside0.mk ((hb2.block g hgw).trans hg)
  have HCA := Aside0.mk hcpA
  have HCB := Aside0.mk hcpB
  have HRZ := Aside0.mk hrz
  obtain ⟨ys, HYS⟩ : ∃ ys, Aside0 (xs.take (i * 3) ++ [x, y, z] ++ xs.drop (i * 3) = ys) := ⟨_, ⟨rfl⟩⟩
  rw [HYS.out] at HPost ⊢
  have mixed := mixed_
  have hz2 : ¬ ((i : Int) = (n : Int)) := by omega
  have hz3 : (c : Int) < (n : Int) + 1 := by omega
  have hG63 : G ≤ 9223372036854775807 := by omega
  have hGi : ¬ (G = i) := by omega
  have hGim : ¬ (G = i + 1) := by omega
  have hci : ¬ (c = i) := by omega
  have hw1 : IntKind.i64.wrap ((i : Int) + 1) = (i : Int) + 1 := by rw [IntKind.wrap_i64]; omega
  have hbb1 : (0 : Int) ≤ (i : Int) + 1 := by omega
  have hin : i ≤ n := by omega
  have htn : ((i : Int) + 1).toNat = i + 1 := by omega
  have hb3 : (i : Int) ≤ (n : Int) := by omega
  clear hcpA hcpB hrz hb1 hb2 hn1 hc1 hc2 hs1 hfin hROW hRs hcur hx hdl htl hg hv h1 hxo hyo hzo hold hkk hik hZ1 hZ2 hl1 hl2 hG
  go_enter Try.func33, Try.ntmps33
  go_wp2_with (first
    | (at_builtin; refine wpList_append_eq _ rfl _ _ 47 3 rfl _ _ rfl rfl (HRZ.out _) ?_)
    | (refine wpList_copy_eq _ rfl _ _ 47 47 (by rfl) _ _ (by rfl) (by rfl) (HCA.out _ (by exact ha1.out) (by exact ha2.out) _ _) ?_))
  go_region_law_o (refine step_copy_eq rfl _ _ 47 47 rfl (.slice (some ⟨w.heap.size, (i + 1) * 3, none⟩) (n - i) (G - (i + 1))) (.slice (some ⟨g, i * 3, none⟩) (n - i) (c - i)) (by simp [Act.eval, Act.put]) (by simp [Act.eval, Act.put]) (HCB.out _ (by exact ha3.out) (by exact ha4.out) _ _ _) ?_)
  go_wp2
  go_ret
  exact HPost.out _ (by exact ha3.out) (by repeat (first | exact Below.refl _ _ | (refine below_row ?_ (Nat.le_refl _) _) | apply below_drew | apply below_alloc))
/-- slices.Insert of a pair. -/
theorem insert_any (base n i vb vc : Nat) (v : Value) (xs : List Value) (x y z : Value) (w : World) (hown : w.ownsRow base 53 3 v n xs) (h1 : ∀ v ∈ xs, v.oneCell' = true) (hi : i ≤ n) (hv : w.heap[vb]? = some (.cells #[x, y, z] 53 (0, 0))) (hne : some vb ≠ v.ownBlock) (hx : x.oneCell' = true) (hy : y.oneCell' = true) (hz : z.oneCell' = true) (hb : base ≤ w.heap.size) (hn : n ≤ 5000) :
    Calls Try.prog 33 #[v, .int .i64 i, .slice (some ⟨vb, 0, none⟩) 1 vc] w (RowPost base (n + 1) v (xs.take (i * 3) ++ [x, y, z] ++ xs.drop (i * 3)) w) := by
  by_cases e : i = n
  · subst e
    have e1 : xs.take (i * 3) = xs := List.take_of_length_le (by rw [hown.1]; exact Nat.le_refl _)
    have e2 : xs.drop (i * 3) = [] := List.drop_of_length_le (by rw [hown.1]; exact Nat.le_refl _)
    rw [e1, e2, List.append_nil]
    exact ins_end base i vb vc v xs x y z w hown hv hx hy hz hb hn
  · obtain ⟨g, cap, cur, rest, rfl, hbg, hg, hnc, hcm, hxl, hrl, hcur⟩ := own_open hown (by omega)
    by_cases hr : n + 1 ≤ cap
    · exact ins_shift base g n cap i vb vc xs rest cur x y z w hbg hg hcur hxl hrl (by omega) hr hcm hv (fun e => hne (by rw [e]; rfl)) h1 hx hy hz hn
    · exact ins_grow base g n cap i vb vc xs rest cur x y z w hb hg hcur hxl (by omega) hnc (by omega) hv h1 hx hy hz hn
set_option maxHeartbeats 4000000 in
set_option maxRecDepth 100000 in
theorem del_row (base g n cap i : Nat) (xs rest : List Value) (cur : Array Value) (w : World) (hbg : base ≤ g) (hg : w.heap[g]? = some (.cells cur 53 (0, 0))) (hcur : cur.toList = xs ++ rest) (hx : xs.length = n * 3) (hr : rest.length + n * 3 = cap * 3) (hi : i < n) (hnc : n ≤ cap) (hc : cap ≤ maxLen) (h1 : ∀ v ∈ xs, v.oneCell' = true) (hn : n ≤ 5000) :
    Calls Try.prog 31 #[.slice (some ⟨g, 0, none⟩) n cap, .int .i64 i, .int .i64 ((i : Int) + 1)] w (RowPost base (n - 1) (.slice (some ⟨g, 0, none⟩) n cap) (xs.take (i * 3) ++ xs.drop ((i + 1) * 3)) w) := by
  obtain ⟨i0, hi0, hz0, hzs, hzb⟩ := infoP'
  have hcs : cur.size = cap * 3 := by rw [← Array.length_toList, hcur, List.length_append]; omega
  have hdl : (xs.drop ((i + 1) * 3)).length = (n - (i + 1)) * 3 := by rw [List.length_drop, hx]; omega
  have htl : (xs.take (i * 3)).length = i * 3 := by rw [List.length_take, hx]; omega
  obtain ⟨A, hA, hsrc⟩ : ∃ A : Addr, (if cap = i + 1 then some (⟨g, 0, none⟩ : Addr) else some ⟨g, (i + 1) * 3, none⟩) = some A ∧ Aside0 (∀ t u, (xs.drop ((i + 1) * 3))[t]? = some u → w.drew.cell? (A.add t) = some u) := by
    by_cases h : cap = i + 1
    · refine ⟨⟨g, 0, none⟩, by simp [h], ⟨fun t u hu => ?_⟩⟩
      have := (List.getElem?_eq_some_iff.1 hu).1
      omega
    · refine ⟨⟨g, (i + 1) * 3, none⟩, by simp [h], ⟨fun t u hu => ?_⟩⟩
      rw [Addr.add_lit, cell_row (w := w.drew) hg hcur]
      rw [List.getElem?_drop] at hu
      rw [List.getElem?_append_left (by have := (List.getElem?_eq_some_iff.1 hu).1; omega)]
      exact hu
  obtain ⟨c1, hc1⟩ : ∃ c1 : Array Value, c1 = (cur.toList.take (i * i0.size) ++ xs.drop ((i + 1) * 3) ++ cur.toList.drop (i * i0.size + (xs.drop ((i + 1) * 3)).length)).toArray := ⟨_, rfl⟩
  have hap : ∀ ty c, (Builtin.append_ #[47, 47] ty #[.slice (some ⟨g, 0, none⟩) i cap, .slice (some A) (n - (i + 1)) c]).run Try.prog w.drew = .ok (.slice (some ⟨g, 0, none⟩) (i + (n - (i + 1))) cap) (w.drew.setRow g c1) := fun ty c => by
    rw [hc1]
    exact run_append_room w.drew 47 ty 53 i0 Try.underlying47 hi0 g i cap cur hg A (n - (i + 1)) c (xs.drop ((i + 1) * 3)) (by rw [hzs]; exact hdl) hsrc.out (fun v hv => h1 v (List.mem_of_mem_drop hv)) (by omega) (by rw [hzs, hdl]; omega)
  rw [hzs] at hc1
  have hs1 : c1.size = cap * 3 := by rw [hc1]; simp only [List.size_toArray, List.length_append, List.length_take, List.length_drop, Array.length_toList]; omega
  obtain ⟨W1, hW1⟩ : ∃ W1, W1 = w.drew.setRow g c1 := ⟨_, rfl⟩
  have hh1 : W1.heap[g]? = some (.cells c1 53 (0, 0)) := by rw [hW1]; exact setRow_heap w.drew g cur _ _ _ hg
  obtain ⟨Z, hZ⟩ : ∃ Z : List Value, Z = (Builtin.zeroCells (Value.agg #[.int .i64 0, .complex .f64 0 0, .int .i64 0]).cells (n - (i + (n - (i + 1))))).toList := ⟨_, rfl⟩
  have hlz : Z.length = 3 := by rw [hZ]; simp [Builtin.zeroCells, Value.cells]; omega
  obtain ⟨c2, hc2⟩ : ∃ c2 : Array Value, c2 = (c1.toList.take ((i + (n - (i + 1))) * 3) ++ Z ++ c1.toList.drop ((i + (n - (i + 1))) * 3 + (n - (i + (n - (i + 1)))) * 3)).toArray := ⟨_, rfl⟩
  have hcl : ∀ ty c, (Builtin.clear_ #[47] ty #[.slice (some ⟨g, (i + (n - (i + 1))) * 3, none⟩) (n - (i + (n - (i + 1)))) c]).run Try.prog W1 = .ok (.tuple #[]) (W1.setRow g c2) := fun ty c => by
    rw [hc2, hZ]
    exact run_clear_row W1 47 ty 53 _ 3 g _ _ c c1 53 Try.underlying47 zeroP rfl (by omega) (by intro v hv; simp [Value.cells] at hv; rcases hv with rfl | rfl | rfl <;> rfl) hh1 (by rw [hs1]; omega)
  have hfin : c2.toList = (xs.take (i * 3) ++ xs.drop ((i + 1) * 3)) ++ (Z ++ rest) := by
    rw [hc2, hc1, hcur]
    simp only [List.toList_toArray]
    have e1 : (xs ++ rest).take (i * 3) = xs.take (i * 3) := List.take_append_of_le_length (by omega)
    have h3 : (xs.take (i * 3) ++ xs.drop ((i + 1) * 3)).length = (i + (n - (i + 1))) * 3 := by rw [List.length_append, htl, hdl]; omega
    have e2 : (xs ++ rest).drop (i * 3 + (xs.drop ((i + 1) * 3)).length) = xs.drop ((n - 1) * 3) ++ rest := by
      rw [hdl, show i * 3 + (n - (i + 1)) * 3 = (n - 1) * 3 by omega, List.drop_append_of_le_length (by omega)]
    have h4 : (xs.drop ((n - 1) * 3)).length = 3 := by rw [List.length_drop, hx]; omega
    rw [e1, e2, take_app _ _ h3, drop_app (xs.take (i * 3) ++ xs.drop ((i + 1) * 3)) (xs.drop ((n - 1) * 3) ++ rest) 3 (by rw [h3]; omega), drop_app (xs.drop ((n - 1) * 3)) rest 0 (by rw [h4])]
    simp
  have HPost : Aside0 (RowPost base (n - 1) (.slice (some ⟨g, 0, none⟩) n cap) (xs.take (i * 3) ++ xs.drop ((i + 1) * 3)) w (.returned (.slice (some ⟨g, 0, none⟩) (i + (n - (i + 1))) cap)) (W1.setRow g c2)) := by
    refine ⟨_, rfl, ?_, ?_, .inl rfl⟩
    · rw [show i + (n - (i + 1)) = n - 1 by omega]
      exact own_mk hbg (setRow_heap W1 _ _ _ _ _ hh1) (by omega) hc (by rw [List.length_append, htl, hdl]; omega) (by rw [List.length_append, hlz]; omega) hfin
    · rw [hW1]
      exact grown_trans (grown_trans (grown_drew (grown_refl w _)) (grown_set _ _ _)) (grown_set _ _ _)
  have HAP := Aside0.mk hap
  obtain ⟨ys, HYS⟩ : ∃ ys, Aside0 (xs.take (i * 3) ++ xs.drop ((i + 1) * 3) = ys) := ⟨_, ⟨rfl⟩⟩
  rw [HYS.out] at HPost ⊢
  have mixed := mixed_
  have HW := Aside0.mk hW1
  have hmax : maxLen ≤ 9223372036854775807 := by decide
  have hic : i ≤ cap := by omega
  have hjc : i + 1 ≤ cap := by omega
  have hij : ¬ ((i : Int) = (i : Int) + 1) := by omega
  have hjn : (i : Int) + 1 ≤ (n : Int) := by omega
  have hin : i + 1 ≤ n := by omega
  have htn : ((i : Int) + 1).toNat = i + 1 := by omega
  have hbb : (0 : Int) ≤ (i : Int) + 1 := by omega
  clear hap hW1 hh1 hZ hlz hc1 hc2 hs1 hfin hcur hx hr hdl htl hcs hg h1 hsrc
  go_enter Try.func31, Try.ntmps31
  go_wp2_with fail
  go_region_law_o (refine step_append_eq rfl _ _ 47 47 rfl (.slice (some ⟨g, 0, none⟩) i cap) (.slice (some A) (n - (i + 1)) (cap - (i + 1))) (by simp [Act.eval, Act.put]) (by simp [Act.eval, Act.put]) (HAP.out _ _) ?_; rw [← HW.out])
  go_wp2
  go_ret
  exact HPost.out
theorem delete_any (base n i : Nat) (v : Value) (xs : List Value) (w : World) (hown : w.ownsRow base 53 3 v n xs) (h1 : ∀ v ∈ xs, v.oneCell' = true) (hi : i < n) (hn : n ≤ 5000) :
    Calls Try.prog 31 #[v, .int .i64 i, .int .i64 ((i : Int) + 1)] w (RowPost base (n - 1) v (xs.take (i * 3) ++ xs.drop ((i + 1) * 3)) w) := by
  obtain ⟨g, cap, cur, rest, rfl, hbg, hg, hnc, hcm, hxl, hrl, hcur⟩ := own_open hown (by omega)
  exact del_row base g n cap i xs rest cur w hbg hg hcur hxl hrl hi hnc hcm h1 hn
end Go.Proofs.Ytpjfmilokadchaa.Se
