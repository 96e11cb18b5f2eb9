import Derived.Test.YtmbboianghbjkaaDoorWMore
import Derived.ChangeArms
import Derived.DataReads
import Derived.Deep.Slices
import Derived.SizedLaws
namespace Go.Proofs.YtmbboianghbjkaaDoor
open Go.RowKit Go.ChangeShapes Go.WideShapes Go.Proofs.YtmbboianghbjkaaDoorW.PrintWords Go.Deep
set_option linter.unusedVariables false

/-! WHAT CAME IN, READ BY KINDS. Opens t d ok: whatever reads as data of type t lies in memory as the kind d tells, and is ok. -/
section
variable {H : Type} {enc : TypeId × Value → H} {P : Program} {w : World} {base : Nat} {spare : Nat → Bool} {held : Bool}
theorem mem_weightsAll {P : Program} {e : TypeId} {d : DataW H} {ds : List (DataW H)} (h : d ∈ ds) {n : Nat} (hn : n ∈ d.weights P e) : n ∈ DataW.weightsAll P e ds := by
  induction ds with
  | nil => cases h
  | cons x r ih =>
    rw [DataW.weightsAll, List.mem_append]
    rcases List.mem_cons.1 h with rfl | h
    · exact .inl hn
    · exact .inr (ih h)
def Opens (enc : TypeId × Value → H) (P : Program) (w : World) (base : Nat) (spare : Nat → Bool) (held : Bool) (t : TypeId) {α : Type} (d : Kd α) (ok : α → Prop) : Prop :=
  ∀ fuel cs x, DataW.trod enc P w base spare held fuel t cs = some x → (∀ n ∈ x.1.weights P t, n ≤ reachBytes) → ∃ a, d.K w a cs ∧ ok a
theorem opens_int {t : TypeId} {k : IntKind} (ht : P.underlying t = some (.int k)) : Opens enc P w base spare held t (Kd.int k) (fun n => (Lit.int k n).wf = true) := fun fuel cs x h hwt => by
  obtain ⟨n, rfl, _, hn⟩ := DataW.trod_int ht h
  exact ⟨n, rfl, hn⟩
theorem opens_bool {t : TypeId} (ht : P.underlying t = some .bool) : Opens enc P w base spare held t Kd.bool (fun _ => True) := fun fuel cs x h hwt => by
  obtain ⟨n, rfl, _⟩ := DataW.trod_bool ht h
  exact ⟨n, rfl, trivial⟩
theorem opens_string {t : TypeId} (ht : P.underlying t = some .string) : Opens enc P w base spare held t Kd.string (fun s => s.size ≤ reachBytes) := fun fuel cs x h hwt => by
  obtain ⟨n, rfl, e, hn⟩ := DataW.trod_string ht h
  subst e
  refine ⟨n, rfl, ?_⟩
  have := hwt n.data.toList.length (by simp [DataW.weights])
  rwa [Array.length_toList] at this
theorem opens_slice {t e : TypeId} {α : Type} {d : Kd α} {ok : α → Prop} (q : Nat) (ht : P.underlying t = some (.slice e)) (hc : P.cellsOf e = d.sz) (he : Opens enc P w base spare held e d ok) :
    Opens enc P w base spare held t (Kd.slice q d) (fun l => l.length * P.bytesOf e ≤ reachBytes ∧ ∀ x ∈ l, ok x) := fun fuel cs x h hwt => by
  rcases open_slice ht h with ⟨rfl, _⟩ | ⟨a, len, cap, m, n, D, Pl, rfl, hb, hl, hm, hmm, rfl, hx⟩
  · exact ⟨[], ⟨none, 0, rfl, Nat.le_refl _, Kd.C_nil d w⟩, by simp, fun x hx => by cases hx⟩
  · have hlm : len ≤ m := by rw [hmm]; split <;> omega
    simp only [DataW.weights, ht, List.mem_cons, List.mem_append] at hwt
    have hbig := hwt _ (.inl rfl)
    simp only [List.length_map, List.length_range] at hbig
    have hel : ∀ i, i < len → ∀ z ∈ (D i).weights P e, z ≤ reachBytes := fun i hi z hz => hwt z (.inr (.inl (mem_weightsAll (List.mem_map.2 ⟨i, List.mem_range.2 hi, rfl⟩) hz)))
    have each : ∀ i, i < len → ∃ y : α × List Value, d.K w y.1 y.2 ∧ ok y.1 ∧ w.cells? base (a.add (i * P.cellsOf e)) (P.cellsOf e) = some y.2 := fun i hi => by
      obtain ⟨c, h1, h2⟩ := hx i (by omega)
      obtain ⟨y, h3, h4⟩ := he _ _ _ h2 (hel i hi)
      exact ⟨(y, c), h3, h4, h1⟩
    have hl2 : ∀ n, n ≤ len → ∃ l : List α, l.length = n ∧ ∀ j p, l[j]? = some p → ok p ∧ ∃ c, d.K w p c ∧ w.cells? base (a.add (j * P.cellsOf e)) (P.cellsOf e) = some c := by
      intro n
      induction n with
      | zero => exact fun _ => ⟨[], rfl, fun j p h => by simp at h⟩
      | succ n ih =>
        intro hn
        obtain ⟨l, h1, h2⟩ := ih (by omega)
        obtain ⟨y, h3, h4, h5⟩ := each n (by omega)
        refine ⟨l ++ [y.1], by simp [h1], fun j p h => ?_⟩
        rcases Nat.lt_or_ge j l.length with hj | hj
        · rw [List.getElem?_append_left hj] at h
          exact h2 j p h
        · have : j = l.length := by
            have := (List.getElem?_eq_some_iff.1 h).1
            simp at this
            omega
          subst this
          rw [List.getElem?_append_right (Nat.le_refl _)] at h
          simp at h
          subst h
          rw [h1]
          exact ⟨h4, y.2, h3, h5⟩
    obtain ⟨l, h1, h2⟩ := hl2 len (Nat.le_refl _)
    subst h1
    refine ⟨l, ⟨some a, cap, rfl, hl, rfl, ?_, fun _ => ⟨a, rfl, fun j p hp => ?_⟩⟩, ?_, fun x hx => ?_⟩
    · unfold maxLen at hm; omega
    · obtain ⟨_, c, hK, hcs⟩ := h2 j p hp
      refine ⟨c, d.K_len hK, hK, fun i u hu => ?_⟩
      obtain ⟨_, hlen, hcell⟩ := World.cells?_some hcs
      have hi : i < c.length := (List.getElem?_eq_some_iff.1 hu).1
      have := hcell i (by omega)
      rw [Go.Deep.add_add, hc] at this
      rw [this, hu]
    · exact Nat.le_trans (Nat.mul_le_mul_right _ (by omega)) hbig
    · obtain ⟨j, hj⟩ := List.mem_iff_getElem?.1 hx
      exact (h2 j x hj).1
end
end Go.Proofs.YtmbboianghbjkaaDoor
