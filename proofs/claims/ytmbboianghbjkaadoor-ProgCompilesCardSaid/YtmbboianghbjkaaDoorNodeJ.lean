import Derived.Test.YtmbboianghbjkaaDoorNodeA
namespace Go.Proofs.YtmbboianghbjkaaDoor
open Go.RowKit Go.Shelf
set_option linter.unusedVariables false
set_option linter.unusedSimpArgs false

/-- What node asks of a node: its operator is known, its parts come before it, its numbers are small. -/
structure NodeFits (nodes : List Node) (k : Nat) : Prop where
  op : 1 ≤ (nodes.getD k default).op ∧ (nodes.getD k default).op ≤ 6
  kids : ∃ ks : List Nat, (nodes.getD k default).kids = ks.map (fun q : Nat => (q : Int)) ∧ (∀ q ∈ ks, q < k) ∧ ks.length ≤ 2000
  alt : (nodes.getD k default).op = 3 → (nodes.getD k default).kids ≠ []
  one : (nodes.getD k default).op = 4 ∨ (nodes.getD k default).op = 5 → (nodes.getD k default).kids.length = 1
  num : (nodes.getD k default).op = 4 → 0 ≤ (nodes.getD k default).min ∧ (nodes.getD k default).min ≤ 200 ∧ -1 ≤ (nodes.getD k default).max ∧ (nodes.getD k default).max ≤ 200 ∧ ((nodes.getD k default).min ≤ (nodes.getD k default).max ∨ (nodes.getD k default).max = -1)

theorem kidsB_of {n : Node} {ks : List Nat} (h : n.kids = ks.map (fun q : Nat => (q : Int))) : kidsB n = ks.reverse := by
  unfold kidsB
  rw [h, List.map_map]
  congr 1
  clear h
  induction ks with
  | nil => rfl
  | cons x l ih => simpa using ih

/-- node, at every node of a fitting tree. -/
theorem node_any (base mk B b o c : Nat) (nodes : List Node) (w0 : World) (Rch : Nat → Prop) (hF : ∀ k, Rch k → k < nodes.length ∧ NodeFits nodes k)
    (hC : ∀ k, Rch k → ((nodes.getD k default).op = 4 → (nodes.getD k default).max ≠ 0) → ∀ q : Nat, (q : Int) ∈ (nodes.getD k default).kids → Rch q) (hE : ∀ f k nx lv m, Rch k → (emitF nodes f k nx lv m).1.length ≤ 99999) :
    ∀ f k, k < f → Rch k → KidC base mk B b o c nodes w0 (emitF nodes f) k := by
  intro f
  induction f with
  | zero => intro k h; omega
  | succ f ih =>
    intro k hkf hr v L w next level hM hlv hlv2 hL
    obtain ⟨hk, hfit⟩ := hF k hr
    obtain ⟨ks, hks, hlt, hkl⟩ := hfit.kids
    have hmem : ∀ q ∈ ks, (q : Int) ∈ (nodes.getD k default).kids := fun q hq => by rw [hks]; exact List.mem_map.2 ⟨q, hq, rfl⟩
    have hK : ((nodes.getD k default).op = 4 → (nodes.getD k default).max ≠ 0) → ∀ q ∈ ks, KidC base mk B b o c nodes w0 (emitF nodes f) q := fun h0 q hq => ih q (by have := hlt q hq; omega) (hC k hr h0 q (hmem q hq))
    have hE2 : ((nodes.getD k default).op = 4 → (nodes.getD k default).max ≠ 0) → ∀ q ∈ ks, ∀ nx lv m, (emitF nodes f q nx lv m).1.length ≤ 99999 := fun h0 q hq nx lv m => hE f q nx lv m (hC k hr h0 q (hmem q hq))
    have hu : ∀ m, emitF nodes (f + 1) k next level m = opF (emitF nodes f) (nodes.getD k default) next level m := fun _ => rfl
    rw [hu] at hL ⊢
    obtain ⟨p1, p2⟩ := hfit.op
    have h6 : (nodes.getD k default).op = 1 ∨ (nodes.getD k default).op = 2 ∨ (nodes.getD k default).op = 3 ∨ (nodes.getD k default).op = 4 ∨ (nodes.getD k default).op = 5 ∨ (nodes.getD k default).op = 6 := by omega
    rcases h6 with h | h | h | h | h | h
    · have e : opF (emitF nodes f) (nodes.getD k default) next level L.length = ([⟨1, (nodes.getD k default).set, next, 0, 0⟩], (L.length : Int)) := by unfold opF; rw [h]; rfl
      rw [e] at hL ⊢
      exact nodeUnit_any base mk B b o c nodes v L w0 w k next level hM hk h (by simp at hL; omega)
    · have e : opF (emitF nodes f) (nodes.getD k default) next level L.length = catF (emitF nodes f) level ks.reverse next L.length := by unfold opF; rw [h, kidsB_of hks]; rfl
      rw [e] at hL ⊢
      exact nodeCat_any base mk B b o c nodes v L w0 w k next level hM hk h (emitF nodes f) ks hks hlt hkl (hK (by omega)) (hE2 (by omega)) hlv hlv2 (by omega)
    · have hne : ks ≠ [] := fun e => hfit.alt h (by rw [hks, e]; rfl)
      obtain ⟨ks', k0, rfl⟩ : ∃ ks' k0, ks = ks' ++ [k0] := ⟨ks.dropLast, ks.getLast hne, (List.dropLast_concat_getLast hne).symm⟩
      have e : opF (emitF nodes f) (nodes.getD k default) next level L.length = ((emitF nodes f k0 next level L.length).1 ++ (altF (emitF nodes f) next level ks'.reverse (emitF nodes f k0 next level L.length).2 (L.length + (emitF nodes f k0 next level L.length).1.length)).1, (altF (emitF nodes f) next level ks'.reverse (emitF nodes f k0 next level L.length).2 (L.length + (emitF nodes f k0 next level L.length).1.length)).2) := by
        unfold opF
        rw [h, kidsB_of hks]
        simp
      rw [e] at hL ⊢
      exact nodeAlt_any base mk B b o c nodes v L w0 w k next level hM hk h (emitF nodes f) ks' k0 hks hlt (by simp at hkl; omega) (hK (by omega)) (hE2 (by omega)) hlv hlv2 (by omega)
    · have h1 := hfit.one (Or.inl h)
      rw [hks, List.length_map] at h1
      obtain ⟨k0, rfl⟩ : ∃ k0, ks = [k0] := by
        match ks, h1 with
        | [k0], _ => exact ⟨k0, rfl⟩
      exact nodeRep_any base mk B b o c nodes v L w0 w k next level hM hk h (emitF nodes f) k0 (by simpa using hks) (hlt k0 (by simp)) (fun h0 => hK (fun _ => h0) k0 (by simp)) hlv hlv2 (hfit.num h) hL
    · have h1 := hfit.one (Or.inr h)
      rw [hks, List.length_map] at h1
      obtain ⟨k0, rfl⟩ : ∃ k0, ks = [k0] := by
        match ks, h1 with
        | [k0], _ => exact ⟨k0, rfl⟩
      exact nodeGroup_any base mk B b o c nodes v L w0 w k next level hM hk h (emitF nodes f) k0 (by simpa using hks) (hlt k0 (by simp)) (hK (by omega) k0 (by simp)) hlv hlv2 hL
    · have e : opF (emitF nodes f) (nodes.getD k default) next level L.length = ([⟨4, [], next, 0, (nodes.getD k default).look⟩], (L.length : Int)) := by unfold opF; rw [h]; rfl
      rw [e] at hL ⊢
      exact nodeLook_any base mk B b o c nodes v L w0 w k next level hM hk h (by simp at hL; omega)
end Go.Proofs.YtmbboianghbjkaaDoor
