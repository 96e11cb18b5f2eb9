import Derived.Test.YtmbboianghbjkaaDoorWeight
import Derived.Test.YtmbboianghbjkaaDoorNodeCat
import Derived.Deep.RegionHeld3
import Derived.Laws.Rows
namespace Go.Proofs.YtmbboianghbjkaaDoor
open Go.RowKit Go.Shelf
set_option linter.unusedVariables false
set_option linter.unusedSimpArgs false
attribute [local go_sem] bl_refl bl_alloc bl_a2 bl_a3 bl_a4 bl_a5 bl_set bl_drew bl_drewN le_add_r lt_add_r addr_add Ex.old

theorem results_box {P : Program} {fn : Func} {p u : Tmp} {ty : TypeId} (h : fn.results = #[.cell p ty, .tmp u]) (tmps : Array Value) (w : World) (g : Nat) (t : TypeId) (cs : Array Value) (fr : Nat × Nat) (d : TypeDesc)
    (hp : tmps.getD p undef = .pointer (some ⟨g, 0, none⟩)) (hg : w.heap[g]? = some (.cells cs t fr))
    (hu : P.underlying ty = some d) (hd : (match d with | .struct _ | .array _ _ => true | _ => false) = true) (hi : (P.info? ty).map (·.size) = some cs.size) :
    (results fn tmps).run P w = .ok (.tuple #[.agg cs, tmps.getD u undef]) w := by
  have hp' : tmps[p]?.getD undef = .pointer (some ⟨g, 0, none⟩) := by simpa using hp
  simp [results, h, hp', asAddr, run_loadVar_row w g t ty cs fr d hg hu hd hi]
theorem eql_nilS (w : World) : Sem.run Tryd.prog (binOp BinOp.eql 33 (.slice none 0 0) (.slice none 0 0)) w = .ok (.bool true) w := by kernel_rfl
set_option maxRecDepth 100000 in
theorem cloneSnil_any (w : World) : Calls Tryd.prog 43 #[.slice none 0 0] w fun e w' => e = .returned (.slice none 0 0) ∧ Below w.heap.size w w' := by
  go_enter Tryd.func43, Tryd.ntmps43
  have hu := eql_nilS w
  go_wp2
  go_ret
  exact ⟨rfl, Below.refl _ _⟩

def cat0 : Node := ⟨2, [], [], 0, 0, false, 0, 0⟩
def tree0 : Tree := ⟨[cat0], [], false⟩
theorem tree0_ok : treeOk tree0 = true := by decide
theorem tree0_w : wAns tree0 = 1 := by decide

set_option maxRecDepth 100000 in
set_option maxHeartbeats 2000000 in
/-- The program of the tree that awake hands in. -/
theorem compile0_any (B : Nat) (w0 w : World) (nv : Value) (hb : Below B w0 w) (hB : B ≤ w.heap.size) (ht : TreeV B w0 nv (.slice none 0 0) tree0) (hg : BandsAt B w0) :
    Calls Tryd.prog 18 #[.agg #[nv, .slice none 0 0, .bool false]] w fun e w' => (∃ A c, e = .returned (.tuple #[.agg #[.slice A 2 c, .slice none 0 0, .bool false], .int .i64 0])) ∧ Below w.heap.size w w' := by
  obtain ⟨A, c, rfl, h1, h2, h3⟩ := ht.nodes
  obtain ⟨b, o, rfl, h4⟩ := h3 (by decide)
  have hn := h4 0 (by decide)
  have HT := Lib.hid ht
  have HG := Lib.hid hg
  clear h3 h4 ht hg h1
  rw [show tree0.nodes.length = 1 from rfl] at *
  go_enter Tryd.func18, Tryd.ntmps18
  go_wp2_with fail
  refine (weight_any B w0 _ _ _ (⟨[cat0], [], false⟩ : Tree) ((hb.alloc hB _).alloc (by simp; omega) _) (by simp; omega) HT.out HG.out).mono ?_
  rintro e w1 ⟨rfl, hb1⟩
  rw [show treeOk (⟨[cat0], [], false⟩ : Tree) = true from tree0_ok, show wAns (⟨[cat0], [], false⟩ : Tree) = 1 from tree0_w]
  rw [show errNo true = 0 from rfl]
  obtain ⟨W2, hW2⟩ : ∃ W2, W2 = (w.alloc (.cells #[.slice (some ⟨b, o, none⟩) 1 c, .slice none 0 0, .bool false] 35)).alloc (.cells #[.slice none 0 0, .slice none 0 0, .bool false] 41) := ⟨_, rfl⟩
  have hs2 : W2.heap.size = w.heap.size + 2 := by rw [hW2]; simp
  have hb2 : Below w.heap.size w W2 := by rw [hW2]; exact ((Below.refl _ _).alloc (by simp) _).alloc (by simp) _
  have hT : W2.heap[w.heap.size]? = some (.cells #[.slice (some ⟨b, o, none⟩) 1 c, .slice none 0 0, .bool false] 35 (0, 0)) := by
    rw [hW2]
    exact (Below.heap_alloc _ _ _ (by simp)).trans (World.alloc_heap_new w _)
  have hP : W2.heap[w.heap.size + 1]? = some (.cells #[.slice none 0 0, .slice none 0 0, .bool false] 41 (0, 0)) := by
    rw [hW2]
    have := World.alloc_heap_new (w.alloc (.cells #[.slice (some ⟨b, o, none⟩) 1 c, .slice none 0 0, .bool false] 35)) (.cells #[.slice none 0 0, .slice none 0 0, .bool false] 41)
    rwa [World.size_alloc] at this
  rw [← hW2] at hb1
  clear hW2
  have hs1 := hb1.size
  have e0 : w1.cell? ⟨w.heap.size, 0, none⟩ = some (.slice (some ⟨b, o, none⟩) 1 c) := by simp [World.cell?, (hb1.block w.heap.size (by omega)).trans hT]
  have hs3 : w.heap.size < w1.heap.size := by omega
  go_wp2_with fail
  have hbm : Below w1.heap.size w1 (w1.alloc (.cells #[.slice (some ⟨b, o, none⟩) 1 c, .slice none 0 0] 91)) := (Below.refl _ _).alloc (Nat.le_refl _) _
  refine (put_any (w.heap.size + 2) w1.heap.size (.slice (some ⟨b, o, none⟩) 1 c) (.slice none 0 0) [] ⟨9, .slice none 0 0, 0, 0, 0⟩ _ ⟨World.alloc_heap_new w1 _, World.ownsRow_nil _ _ _ _, by omega⟩ (by simp) rfl).mono ?_
  rintro e w3 ⟨rfl, ⟨v1, hm1⟩, hk1⟩
  go_wp2_with fail
  refine (put_any (w.heap.size + 2) w1.heap.size (.slice (some ⟨b, o, none⟩) 1 c) v1 [⟨9, .slice none 0 0, 0, 0, 0⟩] ⟨7, .slice none 0 0, 0, 0, 0⟩ _ hm1 (by simp) rfl).mono ?_
  rintro e w4 ⟨rfl, ⟨v2, hm2⟩, hk2⟩
  have hk12 := hk1.trans hk2
  have hm4 : Below (w.heap.size + 2) w1 w4 := (hbm.mono (by omega)).trans hk12.below
  have hb4 : Below B w0 w4 := (hb.trans (hb2.mono hB)).trans ((hb1.mono (by omega)).trans (hm4.mono (by omega)))
  have hs4 := hm4.size
  have q0 : w4.cell? ⟨w.heap.size, 0, none⟩ = some (.slice (some ⟨b, o, none⟩) 1 c) := by simp [World.cell?, ((hb1.mono (by omega : w.heap.size + 2 ≤ W2.heap.size)).trans hm4).block w.heap.size (by omega), hT]
  clear hk1 hm1 hk2 hk12
  go_wp2_with fail
  refine (nodeCat0_any (w.heap.size + 2) w1.heap.size B b o 1 c v2 _ w0 _ 0 1 0 cat0 hm2 hb4 (by omega) hn (by omega) rfl rfl (by omega)).mono ?_
  rintro e w5 ⟨rfl, hb5⟩
  have hr5 := own_below hm2.row hb5
  obtain ⟨g, cap, rfl⟩ := ownsRow_succ hr5
  have hml : w1.heap.size < w4.heap.size := (Array.getElem?_eq_some_iff.1 hm2.obj).1
  have ho5 := (hb5.block _ hml).trans hm2.obj
  have r0 : w5.cell? ⟨w1.heap.size, 1, none⟩ = some (.slice (some ⟨g, 0, none⟩) 2 cap) := by simp [World.cell?, ho5]
  have r1 : w5.cell? ⟨g, 2, none⟩ = some (.int .i64 0) := hr5.cellAt 2 (by simp [IV.cells])
  have r2 := hr5.frozenAt 2
  go_wp2_with fail
  have hgb : w5.heap[w1.heap.size]? = some (.cells #[.slice (some ⟨b, o, none⟩) 1 c, .slice (some ⟨g, 0, none⟩) 2 cap] 91 (0, 0)) := ho5
  have hgl : w.heap.size + 2 ≤ g := (hr5.lt g rfl).1
  have hne : w1.heap.size ≠ g := by
    rcases hr5.2 with ⟨e, _⟩ | ⟨g', cap', cur, e, _, hgb', _⟩
    · cases e
    · injection e with e1
      injection e1 with e1
      injection e1 with e1
      subst e1
      intro h
      rw [← h, hgb] at hgb'
      injection hgb' with hgb'
      injection hgb' with _ hgb'
      cases hgb'
  have hT5 : w5.heap[w.heap.size]? = some (.cells #[.slice (some ⟨b, o, none⟩) 1 c, .slice none 0 0, .bool false] 35 (0, 0)) := ((((hb1.mono (by omega : w.heap.size + 2 ≤ W2.heap.size)).trans hm4).trans (hb5.mono (by omega))).block w.heap.size (by omega)).trans hT
  have hP5 : (w5.setCell ⟨g, 2, none⟩ (.int .i64 1)).heap[w.heap.size + 1]? = some (.cells #[.slice none 0 0, .slice none 0 0, .bool false] 41 (0, 0)) := (Below.heap_setCell w5 ⟨g, 2, none⟩ (.int .i64 1) _ (by simp; omega)).trans (((((hb1.mono (by omega : w.heap.size + 2 ≤ W2.heap.size)).trans hm4).trans (hb5.mono (by omega))).block (w.heap.size + 1) (by omega)).trans hP)
  have k1 : (w5.setCell ⟨g, 2, none⟩ (.int .i64 1)).cell? ⟨w.heap.size, 1, none⟩ = some (.slice none 0 0) := by simp [World.cell?, Below.heap_setCell w5 ⟨g, 2, none⟩ (.int .i64 1) w.heap.size (by simp; omega), hT5]
  have k2 : (w5.setCell ⟨g, 2, none⟩ (.int .i64 1)).cell? ⟨w.heap.size, 2, none⟩ = some (.bool false) := by simp [World.cell?, Below.heap_setCell w5 ⟨g, 2, none⟩ (.int .i64 1) w.heap.size (by simp; omega), hT5]
  have k3 : (w5.setCell ⟨g, 2, none⟩ (.int .i64 1)).cell? ⟨w1.heap.size, 1, none⟩ = some (.slice (some ⟨g, 0, none⟩) 2 cap) := by simp [World.cell?, Below.heap_setCell w5 ⟨g, 2, none⟩ (.int .i64 1) w1.heap.size (by simpa using hne), hgb]
  have hbe : Below w.heap.size w (w5.setCell ⟨g, 2, none⟩ (.int .i64 1)) := (((hb2.trans (hb1.mono (by omega))).trans (hm4.mono (by omega))).trans (hb5.mono (by omega))).setCell (by simp; omega) _
  have hs6 : w5.heap.size = (w5.setCell ⟨g, 2, none⟩ (.int .i64 1)).heap.size := by simp
  have hs5 := hb5.size
  obtain ⟨W6, hW6⟩ : ∃ W6, W6 = w5.setCell ⟨g, 2, none⟩ (.int .i64 1) := ⟨_, rfl⟩
  rw [← hW6] at k1 k2 k3 hP5 hbe hs6 ⊢
  clear hW6 hgb hT5 ho5 hr5 r0 r1 r2 q0
  have z1 : w.heap.size + 1 < W6.heap.size := by omega
  have z2 : w1.heap.size < W6.heap.size := by omega
  have K1 : ∀ W', Below W6.heap.size W6 W' → W'.cell? ⟨w.heap.size, 1, none⟩ = some (.slice none 0 0) := fun W' h => (h.cell (p := ⟨w.heap.size, 1, none⟩) (by simp; omega)).trans k1
  have K2 : ∀ W', Below W6.heap.size W6 W' → W'.cell? ⟨w.heap.size, 2, none⟩ = some (.bool false) := fun W' h => (h.cell (p := ⟨w.heap.size, 2, none⟩) (by simp; omega)).trans k2
  have K3 : ∀ W', Below W6.heap.size W6 W' → W'.cell? ⟨w1.heap.size, 1, none⟩ = some (.slice (some ⟨g, 0, none⟩) 2 cap) := fun W' h => (h.cell (p := ⟨w1.heap.size, 1, none⟩) (by simp; omega)).trans k3
  have P0 : ∀ W', Below W6.heap.size W6 W' → W'.cell? ⟨w.heap.size + 1, 0, none⟩ = some (.slice none 0 0) ∧ W'.frozen? ⟨w.heap.size + 1, 0, none⟩ = false := fun W' h => by simp [World.cell?, World.frozen?, (h.block _ z1).trans hP5]
  have P1 : ∀ W', Below W6.heap.size W6 W' → W'.cell? ⟨w.heap.size + 1, 1, none⟩ = some (.slice none 0 0) ∧ W'.frozen? ⟨w.heap.size + 1, 1, none⟩ = false := fun W' h => by simp [World.cell?, World.frozen?, (h.block _ z1).trans hP5]
  have P2 : ∀ W', Below W6.heap.size W6 W' → W'.cell? ⟨w.heap.size + 1, 2, none⟩ = some (.bool false) ∧ W'.frozen? ⟨w.heap.size + 1, 2, none⟩ = false := fun W' h => by simp [World.cell?, World.frozen?, (h.block _ z1).trans hP5]
  have HP := Lib.hid hP5
  clear k1 k2 k3 hP5
  have HE := Lib.hid hbe
  clear hbe
  have ne1 : w1.heap.size ≠ w.heap.size + 1 := by omega
  have ne2 : w.heap.size + 1 ≠ w1.heap.size := by omega
  have kd1 := K1 _ (Below.refl W6.heap.size W6).drew
  have kd2 := K2 _ (Below.refl W6.heap.size W6).drew
  have kd3 := K3 _ (Below.refl W6.heap.size W6).drew
  go_region_held3 (fun W' => W'.cell? ⟨w1.heap.size, 1, none⟩ = some (.slice (some ⟨g, 0, none⟩) 2 cap) ∧ W'.cell? ⟨w.heap.size, 1, none⟩ = some (.slice none 0 0) ∧ W'.cell? ⟨w.heap.size, 2, none⟩ = some (.bool false)) (go_keep)
    ((go_at_call 43; refine (cloneSnil_any _).mono ?_; rintro e wc ⟨rfl, hbc⟩; have hbc' : Below W6.heap.size W6 wc := (Below.refl W6.heap.size W6).drew.trans hbc; clear hbc; have ke1 := K1 _ hbc'; have ke2 := K2 _ hbc'; have ke3 := K3 _ hbc'))
  go_wp2
  have c0 := (hbc'.block _ z1).trans HP.out
  have c1 := cells_set (cells_set (cells_set c0 0 (.slice (some ⟨g, 0, none⟩) 2 cap)) 1 (.slice none 0 0)) 2 (.bool false)
  refine bodyPost_ret (results_box rfl _ _ (w.heap.size + 1) 41 #[.slice (some ⟨g, 0, none⟩) 2 cap, .slice none 0 0, .bool false] (0, 0) _ rfl c1 Tryd.underlying41 rfl (by kernel_rfl)) rfl ⟨⟨_, _, rfl⟩, ?_⟩
  exact (((HE.out.trans (hbc'.mono (by omega))).setCell (by simp) _).setCell (by simp) _).setCell (by simp) _
end Go.Proofs.YtmbboianghbjkaaDoor
