import Derived.Test.YtmbboianghbjkaaDoorCompS
import Derived.Test.YtmbboianghbjkaaDoorCopyT
import Derived.Test.YtmbboianghbjkaaDoorRefI
import Derived.Test.YtmbboianghbjkaaDoorAwake
namespace Go.Proofs.YtmbboianghbjkaaDoor
open Go.RowKit Go.Shelf
set_option linter.unusedVariables false
set_option linter.unusedSimpArgs false
attribute [local go_sem] bl_refl bl_alloc bl_a2 bl_a3 bl_a4 bl_a5 bl_set bl_drew bl_drewN le_add_r lt_add_r Go.Proofs.YtmbboianghbjkaaDoor.addr_add

/-- What is known of a tree that came in. -/
structure TreeIn (w : World) (nv sv : Value) (t : Tree) : Prop where
  tree : TreeV w.heap.size w nv sv t
  nl : t.nodes.length * 96 ≤ 140737488351232
  sl : t.names.length * 16 ≤ 140737488351232
  el : ∀ n ∈ t.nodes, n.set.length * 8 ≤ 140737488351232 ∧ n.kids.length * 8 ≤ 140737488351232
  names : ∀ x ∈ t.names, x.size ≤ 140737488351232
  sets : ∀ n ∈ t.nodes, rngsOk' n.set
/-- Compile of a tree of its own memory, all in one. -/
theorem compileAll_any (B : Nat) (w0 w : World) (nv sv : Value) (t : Tree) (hb : Below B w0 w) (hB : B ≤ w.heap.size) (ht : TreeV B w0 nv sv t) (hg : BandsAt B w0) (hsets : ∀ n ∈ t.nodes, n.set.length ≤ 17592186044416) :
    Calls Tryd.prog 18 #[.agg #[nv, sv, .bool t.raw]] w fun e w' => Below w.heap.size w w' ∧
      ((treeOk t = false ∧ e = .returned (.tuple #[.agg #[.slice none 0 0, .slice none 0 0, .bool false], .int .i64 1])) ∨
       (treeOk t = true ∧ 5000 < weightOf t ∧ e = .returned (.tuple #[.agg #[.slice none 0 0, .slice none 0 0, .bool false], .int .i64 6])) ∨
       (treeOk t = true ∧ weightOf t ≤ 5000 ∧ ∃ iv sv', e = .returned (.tuple #[.agg #[iv, sv', .bool t.raw], .int .i64 0]) ∧ ProgOwn w.heap.size w' iv sv' (compF t) t.names)) := by
  by_cases h : treeOk t = true
  · by_cases hw : weightOf t ≤ 5000
    · have hnm : t.names.length ≤ 1000000 := by
        unfold treeOk at h
        simp only [Bool.and_eq_true] at h
        have h2 := h.1.1.2
        unfold fitOk at h2
        simp only [Bool.and_eq_true, decide_eq_true_eq] at h2
        omega
      refine (compileOk_any B w0 w nv sv t hb hB ht hg h hw hsets hnm).mono ?_
      rintro e w' ⟨iv, sv', rfl, ho, hb'⟩
      exact ⟨hb', .inr (.inr ⟨h, hw, iv, sv', rfl, ho⟩)⟩
    · refine (compileLarge_any B w0 w nv sv t hb hB ht hg h (by omega)).mono ?_
      rintro e w' ⟨rfl, hb'⟩
      exact ⟨hb', .inr (.inl ⟨h, by omega, rfl⟩)⟩
  · refine (compileBad_any B w0 w nv sv t hb hB ht hg (by simpa using h)).mono ?_
    rintro e w' ⟨rfl, hb'⟩
    exact ⟨hb', .inl ⟨by simpa using h, rfl⟩⟩

set_option maxRecDepth 100000 in
set_option maxHeartbeats 4000000 in
theorem compiles_any (w : World) (nv sv : Value) (t : Tree) (hi : TreeIn w nv sv t) (hg : BandsAt w.heap.size w) (hT : TabsAt w.heap.size w) :
    Calls Tryd.prog 7 #[.agg #[nv, sv, .bool t.raw]] w fun e w' => e = .returned (.bool true) ∧ Below w.heap.size w w' := by
  have HI := Lib.hid hi
  obtain ⟨A, c, rfl, _⟩ := hi.tree.nodes
  obtain ⟨As, cs, rfl, _⟩ := hi.tree.names
  have HG := Lib.hid hg
  have HT := Lib.hid hT
  clear hi hg hT
  go_enter Tryd.func7, Tryd.ntmps7
  go_wp2_with fail
  have hb1 : Below w.heap.size w (w.alloc (.cells #[.slice A t.nodes.length c, .slice As t.names.length cs, .bool t.raw] 35)) := (Below.refl _ _).alloc (Nat.le_refl _) _
  have hx1 := World.alloc_heap_new w (.cells #[.slice A t.nodes.length c, .slice As t.names.length cs, .bool t.raw] 35)
  have hz1 : w.heap.size < (w.alloc (.cells #[.slice A t.nodes.length c, .slice As t.names.length cs, .bool t.raw] 35)).heap.size := by simp
  generalize w.alloc (.cells #[.slice A t.nodes.length c, .slice As t.names.length cs, .bool t.raw] 35) = W1 at *
  refine (awake_any w.heap.size w W1 hb1 hb1.size HG.out HT.out).mono ?_
  rintro e w2 ⟨rfl, hb2'⟩
  have hb2 := hb1.trans (hb2'.mono hb1.size)
  have hx2 := (hb2'.block w.heap.size hz1).trans hx1
  have q0 : w2.cell? ⟨w.heap.size, 0, none⟩ = some (.slice A t.nodes.length c) := by rw [cell_of_row _ _ _ _ _ _ hx2]; rfl
  have q1 : w2.cell? ⟨w.heap.size, 1, none⟩ = some (.slice As t.names.length cs) := by rw [cell_of_row _ _ _ _ _ _ hx2]; rfl
  have q2 : w2.cell? ⟨w.heap.size, 2, none⟩ = some (.bool t.raw) := by rw [cell_of_row _ _ _ _ _ _ hx2]; rfl
  have hz2 := hb2'.size
  clear hb2'
  go_wp2_with fail
  refine (rweight_any w.heap.size w w2 _ _ t hb2 hb2.size HI.out.tree HI.out.names HI.out.sets).mono ?_
  rintro e w3 ⟨rfl, hb3'⟩
  have hb3 := hb2.trans (hb3'.mono hb2.size)
  have hx3 := (hb3'.block w.heap.size (by omega)).trans hx2
  have r0 : w3.cell? ⟨w.heap.size, 0, none⟩ = some (.slice A t.nodes.length c) := by rw [cell_of_row _ _ _ _ _ _ hx3]; rfl
  have r1 : w3.cell? ⟨w.heap.size, 1, none⟩ = some (.slice As t.names.length cs) := by rw [cell_of_row _ _ _ _ _ _ hx3]; rfl
  have r2 : w3.cell? ⟨w.heap.size, 2, none⟩ = some (.bool t.raw) := by rw [cell_of_row _ _ _ _ _ _ hx3]; rfl
  have hz3 := hb3'.size
  clear hb3' q0 q1 q2
  go_wp2_with fail
  refine (copyTree_any w.heap.size w w3 _ _ t hb3 hb3.size HI.out.tree HI.out.nl HI.out.sl HI.out.el).mono ?_
  rintro e w4 ⟨nv', sv', rfl, htv, hb4'⟩
  have hb4 := hb3.trans (hb4'.mono hb3.size)
  have hx4 := (hb4'.block w.heap.size (by omega)).trans hx3
  have hz4 := hb4'.size
  obtain ⟨A', c', rfl, _⟩ := htv.nodes
  obtain ⟨As', cs', rfl, _⟩ := htv.names
  have HTV := Lib.hid htv
  clear hb4' htv r0 r1 r2
  go_wp2_with fail
  refine (compileAll_any w4.heap.size w4 w4 _ _ t (Below.refl _ _) (Nat.le_refl _) HTV.out (HG.out.up hb4 hb4.size) (fun n hn => by have := (HI.out.el n hn).1; omega)).mono ?_
  rintro e w5 ⟨hb5', hcase⟩
  have hb5 := hb4.trans (hb5'.mono hb4.size)
  have hx5 := (hb5'.block w.heap.size (by omega)).trans hx4
  have hz5 := hb5'.size
  have hz5' : w.heap.size < w5.heap.size := by omega
  have t0 : w5.cell? ⟨w.heap.size, 0, none⟩ = some (.slice A t.nodes.length c) := by rw [cell_of_row _ _ _ _ _ _ hx5]; rfl
  have t1 : w5.cell? ⟨w.heap.size, 1, none⟩ = some (.slice As t.names.length cs) := by rw [cell_of_row _ _ _ _ _ _ hx5]; rfl
  have t2 : w5.cell? ⟨w.heap.size, 2, none⟩ = some (.bool t.raw) := by rw [cell_of_row _ _ _ _ _ _ hx5]; rfl
  clear hb5'
  rcases hcase with ⟨h1, rfl⟩ | ⟨h1, h2, rfl⟩ | ⟨h1, h2, iv, sv', rfl, ho⟩
  · have hw : wAns t = 0 := by unfold wAns; rw [h1]; rfl
    rw [hw, h1, show errNo false = 1 from rfl]
    clear hw h1
    go_wp2
    go_ret
    exact ⟨rfl, by repeat' (first | exact hb5 | (refine below_drewN ?_ _) | (refine Below.drew ?_) | (refine Below.alloc ?_ ?_ _) | omega | (simp; done) | (simp; omega))⟩
  · have hw : wAns t = weightOf t := by unfold wAns; rw [h1]; rfl
    rw [hw, h1, show errNo true = 0 from rfl]
    clear hw h1
    generalize weightOf t = wt at *
    go_wp2
    go_ret
    exact ⟨rfl, by repeat' (first | exact hb5 | (refine below_drewN ?_ _) | (refine Below.drew ?_) | (refine Below.alloc ?_ ?_ _) | omega | (simp; done) | (simp; omega))⟩
  · have hw : wAns t = weightOf t := by unfold wAns; rw [h1]; rfl
    rw [hw, h1, show errNo true = 0 from rfl]
    obtain ⟨c1, c2⟩ := compF_ok h1 h2
    have hsb : ∀ x ∈ compF t, x.set.length ≤ 9223372036854775807 ∧ rngsOk' x.set := compF_all (P := fun s => s.length ≤ 9223372036854775807 ∧ rngsOk' s) ⟨by simp, fun x hx => by cases hx⟩ fun n hn => ⟨by have := (HI.out.el n hn).1; omega, HI.out.sets n hn⟩
    obtain ⟨s1, s2⟩ := ho.sl fun x hx => (hsb x hx).1
    have HS1 := Lib.hid s1
    have HS2 := Lib.hid s2
    have HSB := Lib.hid hsb
    have HC1 := Lib.hid c1
    obtain ⟨A5, c5, rfl, _⟩ := s1
    obtain ⟨A6, c6, rfl, _⟩ := s2
    generalize compF t = ins at *
    generalize weightOf t = wt at *
    clear hw h1 hsb c1 ho
    have h5 : wt ≤ 5000 := h2
    go_wp2_with fail
    have hb6' : Below w5.heap.size w5 (w5.alloc (.cells #[.slice A5 ins.length c5, .slice A6 t.names.length c6, .bool t.raw] 41)) := (Below.refl _ _).alloc (Nat.le_refl _) _
    have hp6 := World.alloc_heap_new w5 (.cells #[.slice A5 ins.length c5, .slice A6 t.names.length c6, .bool t.raw] 41)
    have hx6 := (hb6'.block w.heap.size (by omega)).trans hx5
    have hz6 : (w5.alloc (.cells #[.slice A5 ins.length c5, .slice A6 t.names.length c6, .bool t.raw] 41)).heap.size = w5.heap.size + 1 := by simp
    obtain ⟨w6, hw6⟩ : ∃ w6, w6 = w5.alloc (.cells #[.slice A5 ins.length c5, .slice A6 t.names.length c6, .bool t.raw] 41) := ⟨_, rfl⟩
    rw [← hw6] at hb6' hp6 hx6 hz6 ⊢
    clear hw6 t0 t1 t2
    refine (rcheck_any w5.heap.size w5 w6 A5 c5 ins A6 c6 t.names t.raw hb6' (by omega) HS1.out HS2.out HI.out.names (fun x hx => (HSB.out x hx).2)).mono ?_
    rintro e w7 ⟨rfl, hb7'⟩
    rw [HC1.out, show errNo true = 0 from rfl]
    have hb7 : Below w5.heap.size w5 w7 := hb6'.trans (hb7'.mono (by omega))
    have hp7 := (hb7'.block w5.heap.size (by omega)).trans hp6
    have hx7 := (hb7'.block w.heap.size (by omega)).trans hx6
    have hz7 := hb7'.size
    have u0 : w7.cell? ⟨w5.heap.size, 0, none⟩ = some (.slice A5 ins.length c5) := by rw [cell_of_row _ _ _ _ _ _ hp7]; rfl
    have u1 : w7.cell? ⟨w5.heap.size, 1, none⟩ = some (.slice A6 t.names.length c6) := by rw [cell_of_row _ _ _ _ _ _ hp7]; rfl
    have u2 : w7.cell? ⟨w5.heap.size, 2, none⟩ = some (.bool t.raw) := by rw [cell_of_row _ _ _ _ _ _ hp7]; rfl
    clear hb7'
    go_wp2_with fail
    refine (pcheck_any w5.heap.size w5 w7 A5 c5 ins A6 c6 t.names t.raw hb7 hb7.size HS1.out HS2.out HI.out.names (HG.out.up hb5 hb5.size)).mono ?_
    rintro e w8 ⟨rfl, hb8'⟩
    rw [HC1.out, show errNo true = 0 from rfl]
    have hb8 : Below w5.heap.size w5 w8 := hb7.trans (hb8'.mono hb7.size)
    have hp8 := (hb8'.block w5.heap.size (by omega)).trans hp7
    have hx8 := (hb8'.block w.heap.size (by omega)).trans hx7
    have v0 : w8.cell? ⟨w5.heap.size, 0, none⟩ = some (.slice A5 ins.length c5) := by rw [cell_of_row _ _ _ _ _ _ hp8]; rfl
    have v1 : w8.cell? ⟨w5.heap.size, 1, none⟩ = some (.slice A6 t.names.length c6) := by rw [cell_of_row _ _ _ _ _ _ hp8]; rfl
    have v2 : w8.cell? ⟨w5.heap.size, 2, none⟩ = some (.bool t.raw) := by rw [cell_of_row _ _ _ _ _ _ hp8]; rfl
    have y0 : w8.cell? ⟨w.heap.size, 0, none⟩ = some (.slice A t.nodes.length c) := by rw [cell_of_row _ _ _ _ _ _ hx8]; rfl
    have y1 : w8.cell? ⟨w.heap.size, 1, none⟩ = some (.slice As t.names.length cs) := by rw [cell_of_row _ _ _ _ _ _ hx8]; rfl
    have y2 : w8.cell? ⟨w.heap.size, 2, none⟩ = some (.bool t.raw) := by rw [cell_of_row _ _ _ _ _ _ hx8]; rfl
    have hbe := hb5.trans (hb8.mono hb5.size)
    have HSM := Lib.hid (sameTexts_any w8 (.slice A6 t.names.length c6) (.slice As t.names.length cs) t.names (Sl.rdS HS2.out hb8) (Sl.rdS HI.out.tree.names hbe))
    have hrr : (t.raw == t.raw) = true := by simp
    have hwt : (ins.length : Int) ≤ wt + 2 := c2
    have HBE := Lib.hid hbe
    clear hb8' u0 u1 u2 hbe
    go_wp2_with (first
      | (go_at_call 25; refine HSM.out.mono ?_; rintro e w9 ⟨rfl, nd, rfl⟩))
    go_ret
    exact ⟨rfl, by first | exact HBE.out | exact below_drewN HBE.out _⟩
end Go.Proofs.YtmbboianghbjkaaDoor
