import Derived.Test.YtmbboianghbjkaaDoorEmitX
namespace Go.Proofs.YtmbboianghbjkaaDoor
open Go.RowKit Go.Shelf
set_option linter.unusedVariables false
set_option linter.unusedSimpArgs false

/-! plain: a tree that passes fits node's wants -/
theorem grown_at {raw : Bool} {nodes : List Node} {st : List Int × List Int} (h : growTo raw nodes nodes.length = some st) (k : Nat) (hk : k < nodes.length) : numOk (nodes.getD k default) = true ∧ (nodes.getD k default).kids.length ≤ k := by
  obtain ⟨st', h'⟩ := growTo_pre nodes.length st h (k + 1) (by omega)
  rw [growTo, Option.bind_eq_some_iff] at h'
  obtain ⟨⟨fr, dp⟩, h0, h1⟩ := h'
  obtain ⟨fr', dp'⟩ := st'
  obtain ⟨a, _, c, _⟩ := growStep_some h1
  have := growTo_inv raw nodes k fr dp h0
  exact ⟨a, by omega⟩
theorem nat_list_lt (l : List Int) (k : Nat) (h : ∀ q ∈ l, 0 ≤ q ∧ q < k) : ∃ ks : List Nat, l = ks.map (fun q : Nat => (q : Int)) ∧ (∀ q ∈ ks, q < k) ∧ ks.length = l.length := by
  refine ⟨l.map Int.toNat, ?_, fun q hq => ?_, by simp⟩
  · rw [List.map_map]
    conv => lhs; rw [← List.map_id l]
    refine List.map_congr_left fun q hq => ?_
    have := (h q hq).1
    simp only [Function.comp, id]
    omega
  · obtain ⟨x, hx, rfl⟩ := List.mem_map.1 hq
    have := h x hx
    omega
theorem fits_of {t : Tree} (h : treeOk t = true) : ∀ k, k < t.nodes.length → NodeFits t.nodes k := by
  intro k hk
  obtain ⟨h1, h2, fr, dp, hg, _⟩ := treeOk_grown h
  obtain ⟨hn, hl⟩ := grown_at hg k hk
  obtain ⟨ks, e1, e2, e3⟩ := nat_list_lt _ k (grown_kids hg k hk)
  unfold numOk at hn
  refine ⟨?_, ⟨ks, e1, e2, by omega⟩, fun e => ?_, fun e => ?_, fun e => ?_⟩
  · split at hn
    · omega
    split at hn
    · omega
    split at hn
    · omega
    split at hn
    · omega
    split at hn
    · omega
    · cases hn
  · rw [if_neg (by omega), if_neg (by omega), if_pos e] at hn
    simp only [decide_eq_true_eq] at hn
    intro e0
    rw [e0] at hn
    simp at hn
  · rcases e with e | e
    · rw [if_neg (by omega), if_neg (by omega), if_neg (by omega), if_neg (by omega), if_pos e] at hn
      simp only [Bool.and_eq_true, decide_eq_true_eq] at hn
      exact hn.1.1.1.1
    · rw [if_neg (by omega), if_neg (by omega), if_neg (by omega), if_pos e] at hn
      simpa using hn
  · rw [if_neg (by omega), if_neg (by omega), if_neg (by omega), if_neg (by omega), if_pos e] at hn
    simp only [Bool.and_eq_true, Bool.or_eq_true, decide_eq_true_eq] at hn
    obtain ⟨⟨⟨⟨q1, q2⟩, q3⟩, q4⟩, q5⟩ := hn
    exact ⟨q2, q3, by omega, q4, by omega⟩
theorem wGet_pos {t : Tree} (h : treeOk t = true) : ∀ k, k < t.nodes.length → 0 ≤ wGet t.nodes k := by
  intro k hk
  obtain ⟨h1, h2, fr, dp, hg, _⟩ := treeOk_grown h
  unfold wGet
  rw [List.getD_eq_getElem?_getD, List.getElem?_eq_getElem (by rw [wTo_len]; exact hk)]
  exact (wTo_inv hg (fun i hi => by have := (grown_at hg i hi).2; omega) _ (Nat.le_refl _) _ (List.getElem_mem _)).1
/-- A part that is laid weighs no more than the whole. -/
theorem wGet_kid {t : Tree} (h : treeOk t = true) (k : Nat) (hk : k < t.nodes.length) (hw : wGet t.nodes k ≤ 5000) (h0 : (t.nodes.getD k default).op = 4 → (t.nodes.getD k default).max ≠ 0) (q : Nat) (hq : (q : Int) ∈ (t.nodes.getD k default).kids) : q < t.nodes.length ∧ wGet t.nodes q ≤ 5000 := by
  have hfit := fits_of h k hk
  obtain ⟨ks, hks, hlt, hkl⟩ := hfit.kids
  rw [hks] at hq
  obtain ⟨q', hq', e⟩ := List.mem_map.1 hq
  obtain rfl : q' = q := by (have e : ((q' : Nat) : Int) = (q : Int) := e); omega
  have hql := hlt _ hq'
  refine ⟨by omega, ?_⟩
  have hnn : ∀ q ∈ ks, 0 ≤ wGet t.nodes q := fun q hq => wGet_pos h q (by have := hlt q hq; omega)
  obtain ⟨hs0, hsm⟩ := mem_le_sum (wGet t.nodes) ks hnn
  have hle := hsm _ hq'
  have hwe := wGet_eq t.nodes k hk
  rw [hks, wSum_eq t.nodes k (by omega) ks hlt] at hwe
  have hraw : wRaw (t.nodes.getD k default) (ks.map (wGet t.nodes)).sum ≤ 5000 := by
    rw [hwe] at hw
    unfold mnI at hw
    split at hw <;> omega
  obtain ⟨p1, p2⟩ := hfit.op
  unfold wRaw at hraw
  split at hraw
  · omega
  split at hraw
  · omega
  split at hraw
  · omega
  split at hraw
  · rename_i e4
    obtain ⟨n1, n2, n3, n4, n5⟩ := hfit.num e4
    have hm := h0 e4
    have hc1 : 1 ≤ copies (t.nodes.getD k default) := by
      unfold copies
      split <;> omega
    have := Int.mul_le_mul_of_nonneg_right hc1 (show 0 ≤ (ks.map (wGet t.nodes)).sum + 3 by omega)
    omega
  · omega
/-- node, at every node of a tree that passes and is light. -/
theorem node_tree (base mk B b o c : Nat) (t : Tree) (w0 : World) (h : treeOk t = true) : ∀ f k, k < f → k < t.nodes.length → wGet t.nodes k ≤ 5000 → KidC base mk B b o c t.nodes w0 (emitF t.nodes f) k := fun f k hf hk hw =>
  node_any base mk B b o c t.nodes w0 (fun k => k < t.nodes.length ∧ wGet t.nodes k ≤ 5000) (fun k hk => ⟨hk.1, fits_of h k hk.1⟩) (fun k hk h0 q hq => wGet_kid h k hk.1 hk.2 h0 q hq)
    (fun f k nx lv m hk => by have := emit_len t.nodes (fits_of h) (wGet_pos h) f k hk.1 hk.2 nx lv m; omega) f k hf ⟨hk, hw⟩
end Go.Proofs.YtmbboianghbjkaaDoor
