import Derived.Test.YtmbboianghbjkaaDoorGrown
namespace Go.Proofs.YtmbboianghbjkaaDoor
open Go.RowKit

/-- Each part stands ahead of its node. -/
def KidsLt (nodes : List Node) : Prop := ∀ i, i < nodes.length → ∀ q ∈ (nodes.getD i default).kids, 0 ≤ q ∧ q < i
def preF (nodes : List Node) : Nat → Nat → List Node
  | 0, _ => []
  | f + 1, i => (nodes.getD i default) :: (nodes.getD i default).kids.flatMap (fun q => preF nodes f q.toNat)
/-- The nodes of a part, the whole ahead of its parts. -/
def pre (nodes : List Node) (i : Nat) : List Node := preF nodes (i + 1) i
theorem flatMap_congr' {α β : Type} {l : List α} {f g : α → List β} (h : ∀ x ∈ l, f x = g x) : l.flatMap f = l.flatMap g := by
  induction l with
  | nil => rfl
  | cons x l ih => rw [List.flatMap_cons, List.flatMap_cons, h x (by simp), ih fun y hy => h y (by simp [hy])]
theorem preF_pre {nodes : List Node} (h : KidsLt nodes) : ∀ (i f : Nat), i < nodes.length → i < f → preF nodes f i = pre nodes i := by
  intro i
  induction i using Nat.strongRecOn with
  | _ i ih =>
    intro f hi hf
    obtain ⟨f, rfl⟩ : ∃ m, f = m + 1 := ⟨f - 1, by omega⟩
    show _ = preF nodes (i + 1) i
    rw [preF, preF]
    congr 1
    refine flatMap_congr' fun q hq => ?_
    obtain ⟨h0, h1⟩ := h i hi q hq
    rw [ih q.toNat (by omega) f (by omega) (by omega), ih q.toNat (by omega) i (by omega) (by omega)]
theorem pre_eq {nodes : List Node} (h : KidsLt nodes) (i : Nat) (hi : i < nodes.length) : pre nodes i = (nodes.getD i default) :: (nodes.getD i default).kids.flatMap (fun q => pre nodes q.toNat) := by
  show preF nodes (i + 1) i = _
  rw [preF]
  congr 1
  refine flatMap_congr' fun q hq => ?_
  obtain ⟨h0, h1⟩ := h i hi q hq
  exact preF_pre h _ _ (by omega) (by omega)
def opn : List Node → Int → Option Int
  | [], w => some w
  | n :: r, w => if n.op = 5 then (if n.group = w + 1 then opn r (w + 1) else none) else opn r w
def openedOk (t : Tree) : Bool := decide (opn (pre t.nodes (t.nodes.length - 1)) 0 = some (t.names.length : Int))

theorem growTo_pre {raw : Bool} {nodes : List Node} : ∀ (k : Nat) (st : List Int × List Int), growTo raw nodes k = some st → ∀ j, j ≤ k → ∃ st', growTo raw nodes j = some st' := by
  intro k
  induction k with
  | zero => intro st h j hj; obtain rfl : j = 0 := by omega
            exact ⟨st, h⟩
  | succ k ih =>
    intro st h j hj
    by_cases e : j = k + 1
    · subst e; exact ⟨st, h⟩
    · rw [growTo, Option.bind_eq_some_iff] at h
      obtain ⟨st0, h0, _⟩ := h
      exact ih st0 h0 j (by omega)
/-- What a step that succeeds says. -/
theorem growStep_some {raw : Bool} {n : Node} {k : Nat} {fr dp fr' dp' : List Int} (h : growStep raw n k (fr, dp) = some (fr', dp')) :
    numOk n = true ∧ fldOk n raw = true ∧ n.kids.length ≤ fr.length ∧ n.kids = fr.drop (fr.length - n.kids.length) ∧ fr' = fr.take (fr.length - n.kids.length) ++ [(k : Int)] ∧
      dp' = dp ++ [if n.op = 4 then kmax dp n.kids n.kids.length + 1 else kmax dp n.kids n.kids.length] ∧ (if n.op = 4 then kmax dp n.kids n.kids.length + 1 else kmax dp n.kids n.kids.length) ≤ 63 := by
  unfold growStep at h
  dsimp only at h
  rw [← kmax_all] at h
  generalize (if n.op = 4 then kmax dp n.kids n.kids.length + 1 else kmax dp n.kids n.kids.length) = d at *
  by_cases c1 : (numOk n && fldOk n raw && decide (n.kids.length ≤ fr.length) && decide (n.kids = fr.drop (fr.length - n.kids.length))) = true
  · rw [if_pos c1] at h
    by_cases c2 : d ≤ 63
    · rw [if_pos c2] at h
      simp only [Option.some.injEq, Prod.mk.injEq] at h
      simp only [Bool.and_eq_true, decide_eq_true_eq] at c1
      exact ⟨c1.1.1.1, c1.1.1.2, c1.1.2, c1.2, h.1.symm, h.2.symm, c2⟩
    · rw [if_neg c2] at h; simp at h
  · rw [if_neg c1] at h; simp at h
theorem grown_kids {raw : Bool} {nodes : List Node} {st : List Int × List Int} (h : growTo raw nodes nodes.length = some st) : KidsLt nodes := by
  intro i hi q hq
  obtain ⟨⟨fr', dp'⟩, h1⟩ := growTo_pre _ _ h (i + 1) (by omega)
  rw [growTo, Option.bind_eq_some_iff] at h1
  obtain ⟨⟨fr, dp⟩, h0, h1⟩ := h1
  obtain ⟨_, _, _, h4, _⟩ := growStep_some h1
  obtain ⟨_, _, h6, _⟩ := growTo_inv raw nodes i fr dp h0
  rw [h4] at hq
  exact h6 q (List.mem_of_mem_drop hq)
def preSum (nodes : List Node) (l : List Int) : Nat := (l.map fun q => (pre nodes q.toNat).length).sum
theorem preSum_append (nodes : List Node) (a b : List Int) : preSum nodes (a ++ b) = preSum nodes a + preSum nodes b := by simp [preSum]
theorem pre_len {nodes : List Node} (h : KidsLt nodes) (i : Nat) (hi : i < nodes.length) : (pre nodes i).length = 1 + preSum nodes (nodes.getD i default).kids := by
  rw [pre_eq h i hi, List.length_cons, List.length_flatMap, preSum]
  omega
theorem growTo_sum {raw : Bool} {nodes : List Node} (h : KidsLt nodes) : ∀ (k : Nat) (fr dp : List Int), k ≤ nodes.length → growTo raw nodes k = some (fr, dp) → preSum nodes fr = k := by
  intro k
  induction k with
  | zero => intro fr dp _ h0; simp [growTo] at h0; obtain ⟨rfl, rfl⟩ := h0; rfl
  | succ k ih =>
    intro fr dp hk h1
    rw [growTo, Option.bind_eq_some_iff] at h1
    obtain ⟨⟨fr0, dp0⟩, h0, h1⟩ := h1
    obtain ⟨_, _, _, h4, h5, _⟩ := growStep_some h1
    have hs := ih fr0 dp0 (by omega) h0
    rw [h5, preSum_append]
    have e1 : preSum nodes [(k : Int)] = 1 + preSum nodes (nodes.getD k default).kids := by
      simp only [preSum, List.map_cons, List.map_nil, List.sum_cons, List.sum_nil, Int.toNat_natCast, Nat.add_zero]
      exact pre_len h k (by omega)
    rw [e1]
    have e2 := preSum_append nodes (fr0.take (fr0.length - (nodes.getD k default).kids.length)) (fr0.drop (fr0.length - (nodes.getD k default).kids.length))
    rw [List.take_append_drop, ← h4, hs] at e2
    omega
/-- A grown tree has each node once. -/
theorem grown_size {raw : Bool} {nodes : List Node} {fr dp : List Int} (h : growTo raw nodes nodes.length = some (fr, dp)) (h1 : fr.length = 1) : (pre nodes (nodes.length - 1)).length = nodes.length := by
  have hk := grown_kids h
  have hs := growTo_sum hk nodes.length fr dp (Nat.le_refl _) h
  rcases Nat.eq_zero_or_pos nodes.length with h0 | hp
  · rw [h0] at h
    simp [growTo] at h
    rw [h.1] at h1
    simp at h1
  · have h2 := h
    rw [show nodes.length = (nodes.length - 1) + 1 by omega, growTo, Option.bind_eq_some_iff] at h2
    obtain ⟨⟨fr0, dp0⟩, h0, h3⟩ := h2
    obtain ⟨_, _, _, _, h5, _⟩ := growStep_some h3
    rw [h5, List.length_append, List.length_take] at h1
    rw [h5, preSum_append] at hs
    have : fr0.take (fr0.length - ((nodes.getD (nodes.length - 1) default).kids.length)) = [] := List.eq_nil_of_length_eq_zero (by rw [List.length_take]; simp only [List.length_cons, List.length_nil] at h1; omega)
    rw [this] at hs
    simpa [preSum] using hs
end Go.Proofs.YtmbboianghbjkaaDoor
