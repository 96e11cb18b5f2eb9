import Derived.Test.YtmbboianghbjkaaDoorBaseC
import Derived.Test.YtmbboianghbjkaaDoorBaseD
namespace Go.Proofs.YtmbboianghbjkaaDoor
open Go.RowKit Go.Shelf
set_option linter.unusedVariables false
set_option linter.unusedSimpArgs false
attribute [local go_sem] bl_refl bl_alloc bl_a2 bl_a3 bl_a4 bl_a5 bl_set bl_drew bl_drewN le_add_r lt_add_r addr_add

theorem tree0_at (w : World) : TreeV (w.heap.size + 1) (w.alloc (.cells #[.int .i64 2, .slice none 0 0, .slice none 0 0, .int .i64 0, .int .i64 0, .bool false, .int .i64 0, .int .i64 0] 80)) (.slice (some ⟨w.heap.size, 0, none⟩) 1 1) (.slice none 0 0) tree0 := by
  have hd : ∀ i v, (#[.int .i64 2, .slice none 0 0, .slice none 0 0, .int .i64 0, .int .i64 0, .bool false, .int .i64 0, .int .i64 0] : Array Value)[i]? = some v → ∀ w', Below (w.heap.size + 1) (w.alloc (.cells #[.int .i64 2, .slice none 0 0, .slice none 0 0, .int .i64 0, .int .i64 0, .bool false, .int .i64 0, .int .i64 0] 80)) w' → w'.cell? ⟨w.heap.size, i, none⟩ = some v := by
    intro i v hv w' hw
    have h := (hw.block w.heap.size (by omega)).trans (World.alloc_heap_new w _)
    rw [cell_of_row _ _ _ _ _ _ h]
    exact hv
  refine ⟨⟨_, _, rfl, Nat.le_refl _, by decide, fun _ => ⟨w.heap.size, 0, rfl, fun k hk => ?_⟩⟩, ⟨none, 0, rfl, Nat.le_refl _, by decide, fun h => absurd h (by decide)⟩⟩
  obtain rfl : k = 0 := by have : k < 1 := hk; omega
  exact ⟨hd 0 _ rfl, ⟨_, hd 1 _ rfl, ⟨none, 0, rfl, Nat.le_refl _, Nat.zero_le _, fun h => absurd (show 0 < 0 from h) (by omega)⟩⟩, ⟨_, hd 2 _ rfl, ⟨none, 0, rfl, Nat.le_refl _, Nat.zero_le _, fun h => absurd (show 0 < 0 from h) (by omega)⟩⟩, hd 3 _ rfl, hd 4 _ rfl, hd 5 _ rfl, hd 6 _ rfl, hd 7 _ rfl⟩

theorem lookB_a : lookB 1 ⟨#[97]⟩ 0 false = true := by decide
theorem lookE_a : lookE 1 ⟨#[97]⟩ 0 false = 0 := by decide
theorem awake_any (B : Nat) (w0 w : World) (hb : Below B w0 w) (hB : B ≤ w.heap.size) (hg : BandsAt B w0) (hT : TabsAt B w0) :
    Calls Tryd.prog 9 #[] w fun e w' => e = .returned (.bool true) ∧ Below w.heap.size w w' := by
  have HT := Lib.hid hT
  have HG := Lib.hid hg
  clear hT hg
  go_enter Tryd.func9, Tryd.ntmps9
  go_wp2_with fail
  refine (compile0_any (w.heap.size + 1) (w.alloc (.cells #[.int .i64 2, .slice none 0 0, .slice none 0 0, .int .i64 0, .int .i64 0, .bool false, .int .i64 0, .int .i64 0] 80)) _ _ (Below.refl _ _) (by simp) (tree0_at w) (HG.out.up (hb.alloc hB _) (by omega))).mono ?_
  rintro e w1 ⟨⟨A, c, rfl⟩, hb1⟩
  have hs := hb1.size
  simp only [World.size_alloc] at hs
  have hbw : Below w.heap.size w w1 := ((Below.refl _ _).alloc (Nat.le_refl _) _).trans (hb1.mono (by simp))
  go_wp2_with fail
  have hbW : Below w.heap.size w (w1.alloc (.cells #[.slice A 2 c, .slice none 0 0, .bool false] 41)) := hbw.alloc (by omega) _
  have hn := World.alloc_heap_new w1 (.cells #[.slice A 2 c, .slice none 0 0, .bool false] 41)
  have hz : (w1.alloc (.cells #[.slice A 2 c, .slice none 0 0, .bool false] 41)).heap.size = w1.heap.size + 1 := by simp
  obtain ⟨W2, hW2⟩ : ∃ W2, W2 = w1.alloc (.cells #[.slice A 2 c, .slice none 0 0, .bool false] 41) := ⟨_, rfl⟩
  rw [← hW2] at hbW hn hz ⊢
  clear hW2
  refine (look_any B w0 W2 ⟨#[97]⟩ (by decide) (hb.trans (hbW.mono hB)) (by omega) HT.out _ _ _).mono ?_
  rintro e w2 ⟨rfl, hb2⟩
  rw [lookB_a, lookE_a]
  have hbe := hbW.trans (hb2.mono hbW.size)
  have hc : w2.cell? ⟨w1.heap.size, 0, none⟩ = some (.slice A 2 c) := by
    rw [cell_of_row _ _ _ _ _ _ ((hb2.block w1.heap.size (by omega)).trans hn)]
    rfl
  go_wp2
  go_ret
  exact ⟨rfl, hbe⟩
end Go.Proofs.YtmbboianghbjkaaDoor
