-- written by handprint.py, a program of this session's, over the seat Ytamlcbmkdfikeaa
import Derived.Test.YtamlcbmkdfikeaaWWords
import Derived.ChangeArms
import Derived.OpenShut
import Derived.WideShapes
import Derived.DataReads
import Derived.DataElems
set_option linter.unusedVariables false
namespace Go.Proofs.YtamlcbmkdfikeaaW.Opens
open Go.RowKit Go.Proofs.YtamlcbmkdfikeaaW.PrintWords

/-- What a reading of type t tells of the cells that it has read: a value that they are of (kind d), and what is good of it. -/
def Opens {α : Type} (P : Program) (t : TypeId) (d : Kd α) (good : α → Prop) : Prop :=
  ∀ {H : Type} (enc : TypeId × Value → H) (w : World) (base : Nat) (spare : Nat → Bool) (held : Bool) (fuel : Nat) (cs : List Value) (x : DataW H × List MemPlace),
    DataW.trod enc P w base spare held fuel t cs = some x → ∃ v, d.K w v cs ∧ good v
section
variable {P : Program} {t e : TypeId}
theorem opens_int {k : IntKind} (ht : P.underlying t = some (.int k)) : Opens P t (Kd.int k) (fun n => (Lit.int k n).wf = true) := by
  intro H enc w base spare held fuel cs x h
  obtain ⟨n, rfl, _, hw⟩ := DataW.trod_int ht h
  exact ⟨n, rfl, hw⟩
theorem opens_bool (ht : P.underlying t = some .bool) : Opens P t Kd.bool (fun _ => True) := by
  intro H enc w base spare held fuel cs x h
  obtain ⟨b, rfl, _⟩ := DataW.trod_bool ht h
  exact ⟨b, rfl, trivial⟩
theorem opens_string (ht : P.underlying t = some .string) : Opens P t Kd.string (fun s => s.size ≤ maxLen) := by
  intro H enc w base spare held fuel cs x h
  obtain ⟨s, rfl, _, hs⟩ := DataW.trod_string ht h
  exact ⟨s, rfl, hs⟩
theorem list_of {α : Type} {P : Nat → α → Prop} (z : α) : ∀ (n : Nat), (∀ i, i < n → ∃ v, P i v) → ∃ l : List α, l.length = n ∧ ∀ i p, l[i]? = some p → P i p
  | 0, _ => ⟨[], rfl, fun i p h => by simp at h⟩
  | n + 1, h => by
    obtain ⟨l, hl, hp⟩ := list_of (P := fun i => P (i + 1)) z n (fun i hi => h (i + 1) (by omega))
    obtain ⟨v, hv⟩ := h 0 (by omega)
    refine ⟨v :: l, by simp [hl], fun i p hi => ?_⟩
    cases i with
    | zero => simp at hi; subst hi; exact hv
    | succ i => exact hp i p (by simpa using hi)
theorem cells_of {w : World} {base : Nat} {a : Addr} : ∀ {n : Nat} {cs : List Value}, w.cells? base a n = some cs → cs.length = n ∧ ∀ i u, cs[i]? = some u → w.cell? (a.add i) = some u := by
  intro n cs h
  obtain ⟨_, hl, hg⟩ := World.cells?_some h
  refine ⟨hl, fun i u hu => ?_⟩
  have hi : i < cs.length := by
    rcases Nat.lt_or_ge i cs.length with h | h
    · exact h
    · rw [List.getElem?_eq_none h] at hu; cases hu
  exact (hg i (by omega)).trans hu
theorem opens_slice {α : Type} {d : Kd α} {good : α → Prop} (z : α) (ht : P.underlying t = some (.slice e)) (hc : P.cellsOf e = d.sz) (he : Opens P e d good) :
    Opens P t (Kd.slice e d) (fun xs => xs.length ≤ maxLen ∧ ∀ x ∈ xs, good x) := by
  intro H enc w base spare held fuel cs x h
  rcases DataW.trod_slice ht h with ⟨rfl, _⟩ | ⟨a, len, cap, elems, rest, n, _, rfl, _, _, hlc, hcm, hle, hel, _⟩
  · exact ⟨[], ⟨none, 0, rfl, Nat.le_refl _, rfl, by simp, fun h => absurd h (by simp)⟩, by simp [maxLen], by simp⟩
  · have hq : ∀ i, i < len → ∃ v, (∃ c, w.cells? base (a.add (i * P.cellsOf e)) (P.cellsOf e) = some c ∧ d.K w v c) ∧ good v := by
      intro i hi
      have h1 := hel i hi
      have h2 : elems[i]? = some (elems[i]'(by omega)) := List.getElem?_eq_getElem _
      rw [h2] at h1
      obtain ⟨c, hc1, hc2⟩ := Option.bind_eq_some_iff.1 h1
      obtain ⟨v, hv, hg⟩ := he enc w base spare held n c _ hc2
      exact ⟨v, ⟨c, hc1, hv⟩, hg⟩
    obtain ⟨l, hl, hp⟩ := list_of z len hq
    refine ⟨l, ⟨some a, cap, by rw [hl], by omega, rfl, by unfold maxLen at hcm; omega, fun _ => ⟨a, rfl, fun j p hj => ?_⟩⟩, by omega, fun x hx => ?_⟩
    · obtain ⟨⟨c, hc1, hv⟩, _⟩ := hp j p hj
      obtain ⟨hc2, hc3⟩ := cells_of hc1
      refine ⟨c, by rw [hc2, hc], hv, fun i u hu => ?_⟩
      have := hc3 i u hu
      rw [hc] at this
      rw [← this]
      congr 1
      exact (Addr.add_add _ _ _).symm
    · obtain ⟨j, hj⟩ := List.mem_iff_getElem?.1 hx
      exact (hp j x hj).2
end
end Go.Proofs.YtamlcbmkdfikeaaW.Opens
