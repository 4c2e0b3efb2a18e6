/- (c11) Plain: what entries make of logs and tasks; no walk in sight. -/
import Derived.Test.YtmnglonjekegcaaRp0
import Derived.Test.YtmnglonjekegcaaRcPure
namespace Go.Proofs.Ytmnglonjekegcaa.Vw
open Go Go.RowKit Go.Proofs.Ytmnglonjekegcaa.Rp
set_option linter.unusedVariables false
set_option linter.unusedSimpArgs false
def entOf (x : S47) : Rc.Ent := ⟨x.f0, x.f1, x.f2, x.f3, x.f4, x.f5.f0, x.f5.f1, x.f5.f2, x.f6, x.f7, x.f8⟩
def mayE (x : S47) : Bool := Rc.may (entOf x)
/-- A log's view gets a record. -/
def addL (x : S47) (l : S36) : S36 := ⟨l.f0, l.f1 ++ [x.f5], l.f2 ++ [x.f6]⟩
def hasL (L : List S36) (k : Int) : Bool := L.any fun l => l.f0 == k
def ensL (L : List S36) (k : Int) : List S36 := if hasL L k = true then L else L ++ [⟨k, [], []⟩]
def modL (L : List S36) (k : Int) (f : S36 → S36) : List S36 := L.map fun l => if l.f0 = k then f l else l
def putL (L : List S36) (x : S47) : List S36 := modL (ensL L x.f4) x.f4 (addL x)
/-- A task, and its open entries with their places. -/
structure TS where
  t : S41
  o : List (Int × S47)
def hasT (T : List TS) (k : Int) : Bool := T.any fun s => s.t.f0 == k
def newT (k : Int) : TS := ⟨⟨k, 0, 0, [], [], 0⟩, []⟩
def ensT (T : List TS) (k : Int) : List TS := if hasT T k = true then T else T ++ [newT k]
def getT (T : List TS) (k : Int) : TS := (T.find? fun s => s.t.f0 == k).getD (newT k)
def modT (T : List TS) (k : Int) (f : TS → TS) : List TS := T.map fun s => if s.t.f0 = k then f s else s
structure St where
  L : List S36
  T : List TS
def fenceT (x : S47) (s : TS) : TS := ⟨{ s.t with f1 := x.f2 }, []⟩
def openT (at_ : Int) (x : S47) (s : TS) : TS := ⟨s.t, s.o ++ [(at_, x)]⟩
def offsT (x : S47) (s : TS) : TS := ⟨{ s.t with f3 := x.f7, f4 := s.t.f4 ++ x.f8 }, s.o⟩
def endT (s : TS) : TS := ⟨{ s.t with f2 := s.t.f2 + 1 }, []⟩
def commitL (L : List S36) (o : List (Int × S47)) : List S36 := (o.map Prod.snd).foldl putL L
def stepV (st : St) (at_ : Int) (x : S47) : St :=
  if mayE x = false ∨ x.f0 = 6 then st
  else if x.f0 = 1 then ⟨putL st.L x, st.T⟩
  else
    if x.f0 = 5 then ⟨st.L, if (getT st.T x.f1).t.f1 < x.f2 then modT (ensT st.T x.f1) x.f1 (fenceT x) else ensT st.T x.f1⟩
    else if x.f2 ≠ (getT st.T x.f1).t.f1 ∨ x.f3 ≠ (getT st.T x.f1).t.f2 then ⟨st.L, ensT st.T x.f1⟩
    else if x.f0 = 2 then ⟨st.L, modT (ensT st.T x.f1) x.f1 (openT at_ x)⟩
    else if x.f0 = 3 then ⟨commitL st.L (getT st.T x.f1).o, modT (ensT st.T x.f1) x.f1 fun s => endT (offsT x s)⟩
    else ⟨st.L, modT (ensT st.T x.f1) x.f1 endT⟩
def goV (st : St) (i : Int) : List S47 → St
  | [] => st
  | x :: l => goV (stepV st i x) (i + 1) l
def throughV (l : List S47) : St := goV ⟨[], []⟩ 0 l
theorem goV_append (st : St) (i : Int) (l m : List S47) : goV st i (l ++ m) = goV (goV st i l) (i + l.length) m := by
  induction l generalizing st i with
  | nil => simp [goV]
  | cons x l ih =>
    rw [List.cons_append, goV, goV, ih, List.length_cons]
    congr 1
    omega
theorem throughV_snoc (l : List S47) (x : S47) : throughV (l ++ [x]) = stepV (throughV l) l.length x := by
  unfold throughV
  rw [goV_append]
  simp [goV]
theorem hasL_iff {L : List S36} {k : Int} : hasL L k = true ↔ k ∈ L.map (·.f0) := by
  unfold hasL
  rw [List.any_eq_true, List.mem_map]
  constructor
  · rintro ⟨x, hx, h⟩; exact ⟨x, hx, by simpa using h⟩
  · rintro ⟨x, hx, h⟩; exact ⟨x, hx, by simpa using h⟩
theorem hasT_iff {T : List TS} {k : Int} : hasT T k = true ↔ k ∈ T.map (·.t.f0) := by
  unfold hasT
  rw [List.any_eq_true, List.mem_map]
  constructor
  · rintro ⟨x, hx, h⟩; exact ⟨x, hx, by simpa using h⟩
  · rintro ⟨x, hx, h⟩; exact ⟨x, hx, by simpa using h⟩
theorem nodup_snoc {l : List Int} {k : Int} (h : l.Nodup) (hk : k ∉ l) : (l ++ [k]).Nodup := by
  unfold List.Nodup at h ⊢
  refine List.pairwise_append.2 ⟨h, List.pairwise_singleton _ _, fun a ha b hb => ?_⟩
  rw [List.mem_singleton] at hb
  subst hb
  exact fun e => hk (e ▸ ha)
theorem ensL_keys {L : List S36} {k : Int} (h : (L.map (·.f0)).Nodup) : ((ensL L k).map (·.f0)).Nodup ∧ k ∈ (ensL L k).map (·.f0) := by
  unfold ensL
  split
  · rename_i hh; exact ⟨h, hasL_iff.1 hh⟩
  · rename_i hh
    rw [List.map_append]
    exact ⟨nodup_snoc h (fun e => hh (hasL_iff.2 e)), by simp⟩
theorem modL_keys {L : List S36} {k : Int} {f : S36 → S36} (hf : ∀ l, (f l).f0 = l.f0) : (modL L k f).map (·.f0) = L.map (·.f0) := by
  unfold modL
  rw [List.map_map]
  refine List.map_congr_left fun l _ => ?_
  simp only [Function.comp]
  split
  · exact hf l
  · rfl
theorem ensT_keys {T : List TS} {k : Int} (h : (T.map (·.t.f0)).Nodup) : ((ensT T k).map (·.t.f0)).Nodup ∧ k ∈ (ensT T k).map (·.t.f0) := by
  unfold ensT
  split
  · rename_i hh; exact ⟨h, hasT_iff.1 hh⟩
  · rename_i hh
    rw [List.map_append]
    exact ⟨nodup_snoc h (fun e => hh (hasT_iff.2 e)), by simp [newT]⟩
theorem modT_keys {T : List TS} {k : Int} {f : TS → TS} (hf : ∀ s, (f s).t.f0 = s.t.f0) : (modT T k f).map (·.t.f0) = T.map (·.t.f0) := by
  unfold modT
  rw [List.map_map]
  refine List.map_congr_left fun s _ => ?_
  simp only [Function.comp]
  split
  · exact hf s
  · rfl
def getLV (L : List S36) (k : Int) : S36 := (L.find? fun l => l.f0 == k).getD ⟨k, [], []⟩
def sortI (l : List Int) : List Int := l.mergeSort fun x y => decide (x ≤ y)
def toldT (s : TS) : S41 := { s.t with f5 := (s.o.length : Int) }
def readV (l : List S47) : S29 := ⟨(sortI ((throughV l).L.map (·.f0))).map (getLV (throughV l).L), (sortI ((throughV l).T.map (·.t.f0))).map fun k => toldT (getT (throughV l).T k), (l.length : Int)⟩
def stableV (l : List S47) : Int := (throughV l).T.foldl (fun m s => match s.o with | [] => m | p :: _ => if p.1 < m then p.1 else m) (l.length : Int)
end Go.Proofs.Ytmnglonjekegcaa.Vw
