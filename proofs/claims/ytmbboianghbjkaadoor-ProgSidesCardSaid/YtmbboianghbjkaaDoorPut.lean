import Derived.Test.YtmbboianghbjkaaDoorRows2
import Derived.Maps.AppendAt
import Derived.Deep.RegionHeld3
import Derived.Deep.AppendLies
import Derived.Deep.RegionLaw
import Derived.Deep.DeepMust
namespace Go.Proofs.YtmbboianghbjkaaDoor
open Go.RowKit Go.Shelf
set_option linter.unusedVariables false
set_option linter.unusedSimpArgs false
attribute [local go_sem] bl_refl bl_alloc bl_a2 bl_a3 bl_a4 bl_a5 bl_set bl_drew bl_drewN le_add_r lt_add_r addr_add

/-- An instruction as it lies: its set is a value. -/
structure IV where
  op : Int
  set : Value
  x : Int
  y : Int
  n : Int
def IV.cells (i : IV) : List Value := [.int .i64 i.op, i.set, .int .i64 i.x, .int .i64 i.y, .int .i64 i.n]
/-- A maker in a world. -/
structure MkAt (base mk : Nat) (tv v : Value) (L : List IV) (W : World) : Prop where
  obj : W.heap[mk]? = some (.cells #[tv, v] 91 (0, 0))
  row : W.ownsRow base 47 5 v L.length (L.flatMap IV.cells)
  le : base ≤ mk
/-- Whatever else lies stays. -/
structure MkKept (base mk : Nat) (W W' : World) : Prop where
  below : Below base W W'
  other : ∀ k o, W.heap[k]? = some o → k ≠ mk → (∀ cs r, o ≠ .cells cs 47 r) → W'.heap[k]? = some o
theorem MkKept.refl (base mk : Nat) (W : World) : MkKept base mk W W := ⟨Below.refl _ _, fun _ _ h _ _ => h⟩
theorem MkKept.trans {base mk : Nat} {A B C : World} (h : MkKept base mk A B) (k : MkKept base mk B C) : MkKept base mk A C :=
  ⟨h.below.trans k.below, fun i o h1 h2 h3 => k.other i o (h.other i o h1 h2 h3) h2 h3⟩
theorem cells_set {W : World} {b : Nat} {cs : Array Value} {t : TypeId} {r : Nat × Nat} (h : W.heap[b]? = some (.cells cs t r)) (o : Nat) (v : Value) : (W.setCell ⟨b, o, none⟩ v).heap[b]? = some (.cells (cs.setIfInBounds o v) t r) := by
  obtain ⟨hlt, hk⟩ := Array.getElem?_eq_some_iff.1 h
  show (W.heap.modify b _)[b]? = _
  rw [Array.getElem?_eq_getElem (by rw [Array.size_modify]; exact hlt), Array.getElem_modify_self, hk]
  rfl
theorem grownBy_setAt (w : World) (b i : Nat) (v : Value) : w.grownBy (w.setCell ⟨b, i, none⟩ v) (some b) :=
  ⟨rfl, rfl, rfl, by simp [World.setCell], fun k _ hk => Below.heap_setCell _ _ _ _ (fun e => hk (by simp [e]))⟩
theorem info_tInst : (Tryd.prog.info? 47).map (fun i => (i.zero, i.size, i.bytes)) = some (some (.agg #[.int .i64 0, .slice none 0 0, .int .i64 0, .int .i64 0, .int .i64 0]), 5, 56) := by kernel_rfl

set_option maxHeartbeats 2000000 in
theorem put_any (base mk : Nat) (tv v : Value) (L : List IV) (i : IV) (w : World) (h : MkAt base mk tv v L w) (hl : L.length ≤ 100000) (hset : i.set.oneCell' = true) :
    Calls Tryd.prog 41 #[.pointer (some ⟨mk, 0, none⟩), .agg #[.int .i64 i.op, i.set, .int .i64 i.x, .int .i64 i.y, .int .i64 i.n]] w fun e w' => e = .returned (.int .i64 L.length) ∧ (∃ v', MkAt base mk tv v' (L ++ [i]) w') ∧ MkKept base mk w w' := by
  obtain ⟨h1, h2, h3⟩ := h
  obtain ⟨A, c, rfl⟩ := own_form h2
  have c0 : w.cell? ⟨mk, 1, none⟩ = some (.slice A L.length c) := by simp [World.cell?, h1]
  have f0 : w.frozen? ⟨mk, 1, none⟩ = false := by simp [World.frozen?, h1]
  go_enter Tryd.func41, Tryd.ntmps41
  go_wp2
  obtain ⟨i0, hi, hz0, hz1, hz2⟩ := info_parts info_tInst
  have hml : mk < w.heap.size := (Array.getElem?_eq_some_iff.1 h1).1
  have hb0 : Below w.heap.size w (w.alloc (.cells #[.int .i64 i.op, i.set, .int .i64 i.x, .int .i64 i.y, .int .i64 i.n] 47)) := (Below.refl _ _).alloc (Nat.le_refl _) _
  have hnb := World.alloc_heap_new w (.cells #[.int .i64 i.op, i.set, .int .i64 i.x, .int .i64 i.y, .int .i64 i.n] 47)
  have hsz : (w.alloc (.cells #[.int .i64 i.op, i.set, .int .i64 i.x, .int .i64 i.y, .int .i64 i.n] 47)).heap.size = w.heap.size + 1 := by simp
  obtain ⟨W0, hW0⟩ : ∃ W0, W0 = w.alloc (.cells #[.int .i64 i.op, i.set, .int .i64 i.x, .int .i64 i.y, .int .i64 i.n] 47) := ⟨_, rfl⟩
  rw [← hW0] at hnb hb0 hsz ⊢
  clear hW0
  have q0 : W0.cell? ⟨mk, 1, none⟩ = some (.slice A L.length c) := (hb0.cell (p := ⟨mk, 1, none⟩) hml).trans c0
  have n0 : W0.cell? ⟨w.heap.size, 0, none⟩ = some (.int .i64 i.op) := by simp [World.cell?, hnb]
  have n1 : W0.cell? ⟨w.heap.size, 1, none⟩ = some i.set := by simp [World.cell?, hnb]
  have n2 : W0.cell? ⟨w.heap.size, 2, none⟩ = some (.int .i64 i.x) := by simp [World.cell?, hnb]
  have n3 : W0.cell? ⟨w.heap.size, 3, none⟩ = some (.int .i64 i.y) := by simp [World.cell?, hnb]
  have n4 : W0.cell? ⟨w.heap.size, 4, none⟩ = some (.int .i64 i.n) := by simp [World.cell?, hnb]
  have g0 : W0.frozen? ⟨mk, 1, none⟩ = false := (hb0.frozen (p := ⟨mk, 1, none⟩) hml).trans f0
  have hown := own_below h2 hb0
  have hmr : some mk ≠ (Value.slice A L.length c).ownBlock := by
    rcases h2.2 with ⟨e, _⟩ | ⟨g, cap, cur, e, _, hgb, _⟩
    · rw [e]; simp [Value.ownBlock]
    · rw [e]
      intro e'
      injection e' with e'
      subst e'
      rw [h1] at hgb
      injection hgb with hgb
      injection hgb with _ hgb
      cases hgb
  have hm0 : W0.heap[mk]? = some (.cells #[tv, .slice A L.length c] 91 (0, 0)) := (hb0.block mk hml).trans h1
  have hone : ∀ u ∈ i.cells, u.oneCell' = true := by
    intro u hu
    simp only [IV.cells, List.mem_cons, List.not_mem_nil, or_false] at hu
    rcases hu with rfl | rfl | rfl | rfl | rfl
    · rfl
    · exact hset
    · rfl
    · rfl
    · rfl
  go_region_law ((refine step_append_lies _ (by rfl) _ _ 39 (by rfl) base 47 i0 _ 5 56 Tryd.underlying39 hi hz0 hz1 hz2 rfl (by decide) _ L.length (L.flatMap IV.cells) (by rfl) (hown.alloc _) ⟨w.heap.size + 1, 0, none⟩ 1 1 i.cells (by rfl) (by rfl) (by rw [← hsz]; exact World.news_of_block (World.alloc_heap_new _ _)) hone (by decide) (by unfold maxLen; omega) (by omega) (by simp; omega) (w.heap.size + 1 + 1) (by simp [hsz]) ?_; intro g cap w1 hown1 hgrow hat hlt; have pm : w1.heap[mk]? = some (.cells #[tv, .slice A L.length c] 91 (0, 0)) := (hgrow.block mk (by simp; omega) hmr).trans ((Below.heap_alloc _ _ mk (show mk < W0.heap.size by omega)).trans hm0); have pc : w1.cell? ⟨mk, 1, none⟩ = some (.slice A L.length c) := (by simp [World.cell?, pm]); have pf : w1.frozen? ⟨mk, 1, none⟩ = false := (by simp [World.frozen?, pm])))
  all_goals go_wp2
  all_goals
    go_ret
    have hgm : (Value.slice (some ⟨g, 0, none⟩) (L.length + 1) cap).ownBlock ≠ some mk := by
      rcases hat with e | e
      · exact fun e' => hmr (by rw [e]; exact e'.symm)
      · simp [Value.ownBlock]; omega
    have hbw : Below base w (w1.setCell ⟨mk, 1, none⟩ (.slice (some ⟨g, 0, none⟩) (L.length + 1) cap)) := by
      refine Below.setCell ?_ (by exact h3) _
      refine Below.grown ?_ hgrow (by simp; omega) (fun k e => (h2.lt k e).1)
      exact (hb0.mono (by omega)).drew.alloc (by simp; omega) _
    refine ⟨rfl, ⟨_, ⟨cells_set pm 1 _, ?_, h3⟩⟩, hbw, ?_⟩
    · have := hown1.kept (grownBy_setAt w1 mk 1 (.slice (some ⟨g, 0, none⟩) (L.length + 1) cap)) (Or.inr hgm)
      simpa [List.flatMap_append] using this
    · intro k o hk hne hno
      have hkl : k < w.heap.size := (Array.getElem?_eq_some_iff.1 hk).1
      rw [Below.heap_setCell _ _ _ k hne]
      refine (hgrow.block k (by simp; omega) (fun e => ?_)).trans ((Below.heap_alloc _ _ k (show k < W0.heap.size by omega)).trans ((hb0.block k hkl).trans hk))
      rcases h2.2 with ⟨e', _⟩ | ⟨g', cap', cur, e', _, hgb, _⟩
      · rw [e'] at e; simp [Value.ownBlock] at e
      · rw [e'] at e
        injection e with e
        subst e
        rw [hk] at hgb
        injection hgb with hgb
        exact hno _ _ hgb
end Go.Proofs.YtmbboianghbjkaaDoor
