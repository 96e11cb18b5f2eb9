import Derived.Test.YtmbboianghbjkaaDoorNodeT
namespace Go.Proofs.YtmbboianghbjkaaDoor
open Go.RowKit Go.Shelf
set_option linter.unusedVariables false
set_option linter.unusedSimpArgs false
attribute [local go_sem] bl_refl bl_alloc bl_a2 bl_a3 bl_a4 bl_a5 bl_set bl_drew bl_drewN le_add_r lt_add_r addr_add

set_option maxRecDepth 100000 in
set_option maxHeartbeats 2000000 in
/-- Compile at a tree that does not pass. -/
theorem compileBad_any (B : Nat) (w0 w : World) (nv sv : Value) (t : Tree) (hb : Below B w0 w) (hB : B ≤ w.heap.size) (ht : TreeV B w0 nv sv t) (hg : BandsAt B w0) (hbad : treeOk t = false) :
    Calls Tryd.prog 18 #[.agg #[nv, sv, .bool t.raw]] w fun e w' => e = .returned (.tuple #[.agg #[.slice none 0 0, .slice none 0 0, .bool false], .int .i64 (errNo false)]) ∧ Below w.heap.size w w' := by
  obtain ⟨A, c, rfl, h1, h2, h3⟩ := ht.nodes
  obtain ⟨As, cs, rfl, hs1, hs2, hs3⟩ := ht.names
  have HT := Lib.hid ht
  have HG := Lib.hid hg
  have HBAD := Lib.hid hbad
  clear h3 hs3 ht hg hbad
  go_enter Tryd.func18, Tryd.ntmps18
  go_wp2_with fail
  refine (weight_any B w0 _ _ _ t ((hb.alloc hB _).alloc (by simp; omega) _) (by simp; omega) HT.out HG.out).mono ?_
  rintro e w1 ⟨rfl, hb1⟩
  rw [HBAD.out]
  have hw0 : wAns t = 0 := by unfold wAns; rw [HBAD.out]; rfl
  rw [hw0]
  clear hw0
  rw [show errNo false = 1 from rfl]
  obtain ⟨W2, hW2⟩ : ∃ W2, W2 = (w.alloc (.cells #[.slice A t.nodes.length c, .slice As t.names.length cs, .bool t.raw] 35)).alloc (.cells #[.slice none 0 0, .slice none 0 0, .bool false] 41) := ⟨_, rfl⟩
  have hs2' : W2.heap.size = w.heap.size + 2 := by rw [hW2]; simp
  have hb2 : Below w.heap.size w W2 := by rw [hW2]; exact ((Below.refl _ _).alloc (by simp) _).alloc (by simp) _
  have hP : W2.heap[w.heap.size + 1]? = some (.cells #[.slice none 0 0, .slice none 0 0, .bool false] 41 (0, 0)) := by
    rw [hW2]
    have := World.alloc_heap_new (w.alloc (.cells #[.slice A t.nodes.length c, .slice As t.names.length cs, .bool t.raw] 35)) (.cells #[.slice none 0 0, .slice none 0 0, .bool false] 41)
    rwa [World.size_alloc] at this
  rw [← hW2] at hb1
  clear hW2
  have hsz := hb1.size
  have hP1 := (hb1.block (w.heap.size + 1) (by omega)).trans hP
  have HP1 := Lib.hid hP1
  have HBE := Lib.hid (hb2.trans (hb1.mono (by omega : w.heap.size ≤ W2.heap.size)))
  have f0 : w1.frozen? ⟨w.heap.size + 1, 0, none⟩ = false := by simp [World.frozen?, hP1]
  have f1 : w1.frozen? ⟨w.heap.size + 1, 1, none⟩ = false := by simp [World.frozen?, hP1]
  have f2 : w1.frozen? ⟨w.heap.size + 1, 2, none⟩ = false := by simp [World.frozen?, hP1]
  have q0 : w1.cell? ⟨w.heap.size + 1, 0, none⟩ = some (.slice none 0 0) := by simp [World.cell?, hP1]
  have q1 : w1.cell? ⟨w.heap.size + 1, 1, none⟩ = some (.slice none 0 0) := by simp [World.cell?, hP1]
  have q2 : w1.cell? ⟨w.heap.size + 1, 2, none⟩ = some (.bool false) := by simp [World.cell?, hP1]
  clear hP hP1 hb1 hb2 hb
  go_wp2
  have c1 := cells_set (cells_set (cells_set HP1.out 0 (.slice none 0 0)) 1 (.slice none 0 0)) 2 (.bool false)
  refine bodyPost_ret (results_box rfl _ _ (w.heap.size + 1) 41 #[.slice none 0 0, .slice none 0 0, .bool false] (0, 0) _ rfl c1 Tryd.underlying41 rfl (by kernel_rfl)) rfl ⟨rfl, ?_⟩
  exact ((HBE.out.setCell (by simp) _).setCell (by simp) _).setCell (by simp) _

set_option maxRecDepth 100000 in
set_option maxHeartbeats 2000000 in
/-- Compile at a tree that is too heavy. -/
theorem compileLarge_any (B : Nat) (w0 w : World) (nv sv : Value) (t : Tree) (hb : Below B w0 w) (hB : B ≤ w.heap.size) (ht : TreeV B w0 nv sv t) (hg : BandsAt B w0) (hok : treeOk t = true) (hbad : 5000 < weightOf t) :
    Calls Tryd.prog 18 #[.agg #[nv, sv, .bool t.raw]] w fun e w' => e = .returned (.tuple #[.agg #[.slice none 0 0, .slice none 0 0, .bool false], .int .i64 6]) ∧ Below w.heap.size w w' := by
  obtain ⟨A, c, rfl, h1, h2, h3⟩ := ht.nodes
  obtain ⟨As, cs, rfl, hs1, hs2, hs3⟩ := ht.names
  have HT := Lib.hid ht
  have HG := Lib.hid hg
  have HOK := Lib.hid hok
  have HBAD := Lib.hid hbad
  clear h3 hs3 ht hg hbad hok
  go_enter Tryd.func18, Tryd.ntmps18
  go_wp2_with fail
  refine (weight_any B w0 _ _ _ t ((hb.alloc hB _).alloc (by simp; omega) _) (by simp; omega) HT.out HG.out).mono ?_
  rintro e w1 ⟨rfl, hb1⟩
  rw [HOK.out]
  have hw0 : wAns t = weightOf t := by unfold wAns; rw [HOK.out]; rfl
  rw [hw0]
  clear hw0
  rw [show errNo true = 0 from rfl]
  have hhv := HBAD.out
  generalize weightOf t = wt at hhv ⊢
  obtain ⟨W2, hW2⟩ : ∃ W2, W2 = (w.alloc (.cells #[.slice A t.nodes.length c, .slice As t.names.length cs, .bool t.raw] 35)).alloc (.cells #[.slice none 0 0, .slice none 0 0, .bool false] 41) := ⟨_, rfl⟩
  have hs2' : W2.heap.size = w.heap.size + 2 := by rw [hW2]; simp
  have hb2 : Below w.heap.size w W2 := by rw [hW2]; exact ((Below.refl _ _).alloc (by simp) _).alloc (by simp) _
  have hP : W2.heap[w.heap.size + 1]? = some (.cells #[.slice none 0 0, .slice none 0 0, .bool false] 41 (0, 0)) := by
    rw [hW2]
    have := World.alloc_heap_new (w.alloc (.cells #[.slice A t.nodes.length c, .slice As t.names.length cs, .bool t.raw] 35)) (.cells #[.slice none 0 0, .slice none 0 0, .bool false] 41)
    rwa [World.size_alloc] at this
  rw [← hW2] at hb1
  clear hW2
  have hsz := hb1.size
  have hP1 := (hb1.block (w.heap.size + 1) (by omega)).trans hP
  have HP1 := Lib.hid hP1
  have HBE := Lib.hid (hb2.trans (hb1.mono (by omega : w.heap.size ≤ W2.heap.size)))
  have f0 : w1.frozen? ⟨w.heap.size + 1, 0, none⟩ = false := by simp [World.frozen?, hP1]
  have f1 : w1.frozen? ⟨w.heap.size + 1, 1, none⟩ = false := by simp [World.frozen?, hP1]
  have f2 : w1.frozen? ⟨w.heap.size + 1, 2, none⟩ = false := by simp [World.frozen?, hP1]
  have q0 : w1.cell? ⟨w.heap.size + 1, 0, none⟩ = some (.slice none 0 0) := by simp [World.cell?, hP1]
  have q1 : w1.cell? ⟨w.heap.size + 1, 1, none⟩ = some (.slice none 0 0) := by simp [World.cell?, hP1]
  have q2 : w1.cell? ⟨w.heap.size + 1, 2, none⟩ = some (.bool false) := by simp [World.cell?, hP1]
  clear hP hP1 hb1 hb2 hb
  go_wp2
  have c1 := cells_set (cells_set (cells_set HP1.out 0 (.slice none 0 0)) 1 (.slice none 0 0)) 2 (.bool false)
  refine bodyPost_ret (results_box rfl _ _ (w.heap.size + 1) 41 #[.slice none 0 0, .slice none 0 0, .bool false] (0, 0) _ rfl c1 Tryd.underlying41 rfl (by kernel_rfl)) rfl ⟨rfl, ?_⟩
  exact ((HBE.out.setCell (by simp) _).setCell (by simp) _).setCell (by simp) _
end Go.Proofs.YtmbboianghbjkaaDoor
