import Derived.Test.YtmbboianghbjkaaDoorCompL
import Derived.Test.YtmbboianghbjkaaDoorCopy
namespace Go.Proofs.YtmbboianghbjkaaDoor
open Go.RowKit Go.Shelf
set_option linter.unusedVariables false
set_option linter.unusedSimpArgs false

/-! what holds of the sets of the nodes holds of the sets of the instructions -/
section
variable {P : List (Int × Int) → Prop} {kid : Nat → Int → Int → Nat → List Inst × Int}
theorem catF_all (hk : ∀ q nx lv m, ∀ x ∈ (kid q nx lv m).1, P x.set) (level : Int) : ∀ (ks : List Nat) next m, ∀ x ∈ (catF kid level ks next m).1, P x.set
  | [], next, m, x, hx => by simp [catF] at hx
  | k :: ks, next, m, x, hx => by
    simp only [catF, List.mem_append] at hx
    rcases hx with h | h
    · exact hk _ _ _ _ x h
    · exact catF_all hk level ks _ _ x h
theorem altF_all (h0 : P []) (hk : ∀ q nx lv m, ∀ x ∈ (kid q nx lv m).1, P x.set) (next level : Int) : ∀ (ks : List Nat) bg m, ∀ x ∈ (altF kid next level ks bg m).1, P x.set
  | [], bg, m, x, hx => by simp [altF] at hx
  | k :: ks, bg, m, x, hx => by
    simp only [altF, List.mem_append, List.mem_cons] at hx
    rcases hx with h | rfl | h
    · exact hk _ _ _ _ x h
    · exact h0
    · exact altF_all h0 hk next level ks _ _ x h
theorem roundF_all (h0 : P []) (hk : ∀ q nx lv m, ∀ x ∈ (kid q nx lv m).1, P x.set) (k : Nat) (lz : Bool) (next back level : Int) (m : Nat) : ∀ x ∈ (roundF kid k lz next back level m).1, P x.set := by
  intro x hx
  simp only [roundF, List.mem_append, List.mem_cons, List.not_mem_nil, or_false] at hx
  rcases hx with rfl | rfl | h | rfl
  · split <;> exact h0
  · exact h0
  · exact hk _ _ _ _ x h
  · exact h0
theorem timesR_all (h0 : P []) (hk : ∀ q nx lv m, ∀ x ∈ (kid q nx lv m).1, P x.set) (k : Nat) (lz : Bool) (next level : Int) : ∀ c b m, ∀ x ∈ (timesR kid k lz next level c b m).1, P x.set
  | 0, b, m, x, hx => by simp [timesR] at hx
  | c + 1, b, m, x, hx => by
    simp only [timesR, List.mem_append] at hx
    rcases hx with h | h
    · exact roundF_all h0 hk _ _ _ _ _ _ x h
    · exact timesR_all h0 hk k lz next level c _ _ x h
theorem timesN_all (hk : ∀ q nx lv m, ∀ x ∈ (kid q nx lv m).1, P x.set) (k : Nat) (level : Int) : ∀ c b m, ∀ x ∈ (timesN kid k level c b m).1, P x.set
  | 0, b, m, x, hx => by simp [timesN] at hx
  | c + 1, b, m, x, hx => by
    simp only [timesN, List.mem_append] at hx
    rcases hx with h | h
    · exact hk _ _ _ _ x h
    · exact timesN_all hk k level c _ _ x h
theorem opF_all (h0 : P []) (hk : ∀ q nx lv m, ∀ x ∈ (kid q nx lv m).1, P x.set) (n : Node) (hn : P n.set) (next level : Int) (m : Nat) : ∀ x ∈ (opF kid n next level m).1, P x.set := by
  intro x hx
  unfold opF at hx
  split at hx
  · simp at hx; subst hx; exact hn
  split at hx
  · simp at hx; subst hx; exact h0
  split at hx
  · exact catF_all hk _ _ _ _ x hx
  split at hx
  · simp only [List.mem_append] at hx
    rcases hx with h | h
    · exact hk _ _ _ _ x h
    · exact altF_all h0 hk _ _ _ _ _ x h
  split at hx
  · simp only [List.mem_append, List.mem_cons, List.not_mem_nil, or_false] at hx
    rcases hx with rfl | h | rfl
    · exact h0
    · exact hk _ _ _ _ x h
    · exact h0
  · simp only [repF, List.mem_append] at hx
    rcases hx with (h | h) | h
    · split at h
      · exact roundF_all h0 hk _ _ _ _ _ _ x h
      · simp at h
    · exact timesR_all h0 hk _ _ _ _ _ _ _ x h
    · exact timesN_all hk _ _ _ _ _ x h
end
theorem emit_all {P : List (Int × Int) → Prop} (h0 : P []) {nodes : List Node} (hn : ∀ n ∈ nodes, P n.set) : ∀ f k next level m, ∀ x ∈ (emitF nodes f k next level m).1, P x.set
  | 0, k, next, level, m, x, hx => by simp [emitF] at hx
  | f + 1, k, next, level, m, x, hx => by
    rw [emitF] at hx
    refine opF_all h0 (fun q nx lv m => emit_all h0 hn f q nx lv m) _ ?_ _ _ _ x hx
    by_cases hk : k < nodes.length
    · rw [← getD_at nodes k default hk]; exact hn _ (List.getElem_mem hk)
    · rw [List.getD_eq_getElem?_getD, List.getElem?_eq_none (by omega)]; exact h0
theorem compF_all {P : List (Int × Int) → Prop} (h0 : P []) {t : Tree} (hn : ∀ n ∈ t.nodes, P n.set) : ∀ x ∈ compF t, P x.set := by
  intro x hx
  unfold compF at hx
  dsimp only at hx
  rcases List.mem_cons.1 hx with rfl | hx
  · exact h0
  rcases List.mem_cons.1 hx with rfl | hx
  · exact h0
  · exact emit_all h0 hn _ _ _ _ _ x hx

/-! a program of the call's own, as it reads from now on -/
theorem SetRd.sl {base : Nat} {W : World} {v : Value} {xs : List (Int × Int)} (h : SetRd base W v xs) (hl : xs.length ≤ 9223372036854775807) : Sl (RngAt W.heap.size W) 2 v xs := by
  obtain ⟨A, c, rfl, h1, h2⟩ := h
  refine ⟨A, c, rfl, h1, hl, fun hp => ?_⟩
  obtain ⟨b, cs, fr, rfl, hb, hh, hc⟩ := h2 hp
  refine ⟨b, 0, rfl, fun k hk => ?_⟩
  obtain ⟨q1, q2⟩ := hc k hk
  have hlt : b < W.heap.size := (Array.getElem?_eq_some_iff.1 hh).1
  exact ⟨fun w' hw => by rw [cell_of_row _ _ _ _ _ _ ((hw.block b hlt).trans hh), Nat.zero_add]; exact q1, fun w' hw => by rw [cell_of_row _ _ _ _ _ _ ((hw.block b hlt).trans hh), Nat.zero_add]; exact q2⟩
theorem ivCells_at (L : List IV) : ∀ k (h : k < L.length) i v, L[k].cells[i]? = some v → (L.flatMap IV.cells)[k * 5 + i]? = some v := by
  induction L with
  | nil => intro k h; exact absurd h (by simp)
  | cons x r ih =>
    intro k h i v hv
    rw [List.flatMap_cons]
    have hx : x.cells.length = 5 := rfl
    cases k with
    | zero =>
      have hi : i < 5 := by have := (List.getElem?_eq_some_iff.1 hv).1; simpa [IV.cells] using this
      rw [List.getElem?_append_left (by omega)]
      simpa using hv
    | succ k =>
      rw [List.getElem?_append_right (by omega), show (k + 1) * 5 + i - x.cells.length = k * 5 + i by omega]
      exact ih k (by simpa using h) i v (by simpa using hv)
theorem insts_sl {base : Nat} {W : World} {v : Value} {L : List IV} {is : List Inst} (h : W.ownsRow base 47 5 v L.length (L.flatMap IV.cells)) (hr : IsRd base W L is) (hl : ∀ x ∈ is, x.set.length ≤ 9223372036854775807) : Sl (InstAt W.heap.size W) 5 v is := by
  refine own_sl _ is hr.1.symm h fun g c e k hk => ?_
  have hkl : k < L.length := by rw [hr.1]; exact hk
  have r := hr.2 k hkl hk
  rw [e] at h
  have at_ := fun i u hu => own_ext h _ u (ivCells_at L k hkl i u hu)
  have a0 := at_ 0 _ rfl
  have a1 := at_ 1 _ rfl
  have a2 := at_ 2 _ rfl
  have a3 := at_ 3 _ rfl
  have a4 := at_ 4 _ rfl
  rw [r.op] at a0
  rw [r.x_] at a2
  rw [r.y] at a3
  rw [r.n] at a4
  exact ⟨a0, ⟨_, a1, r.set.sl (hl _ (List.getElem_mem hk))⟩, a2, a3, a4⟩
theorem ProgOwn.sl {base : Nat} {W : World} {iv sv : Value} {is : List Inst} {ns : List ByteArray} (h : ProgOwn base W iv sv is ns) (hl : ∀ x ∈ is, x.set.length ≤ 9223372036854775807) : Sl (InstAt W.heap.size W) 5 iv is ∧ Sl (StrAt W.heap.size W) 1 sv ns := by
  obtain ⟨⟨L, h1, h2⟩, h3⟩ := h
  exact ⟨insts_sl h1 h2 hl, h3.sl⟩
end Go.Proofs.YtmbboianghbjkaaDoor
