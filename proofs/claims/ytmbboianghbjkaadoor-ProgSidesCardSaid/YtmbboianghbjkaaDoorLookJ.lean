import Derived.Test.YtmbboianghbjkaaDoorLookF
import Derived.Test.YtmbboianghbjkaaDoorLookG
import Derived.Test.YtmbboianghbjkaaDoorLookT
import Derived.Test.YtmbboianghbjkaaDoorLookU
namespace Go.Proofs.YtmbboianghbjkaaDoor
open Go.RowKit Go.Shelf
set_option linter.unusedVariables false
set_option linter.unusedSimpArgs false
attribute [local go_sem] bl_refl bl_alloc bl_a2 bl_a3 bl_a4 bl_a5 bl_set bl_drew bl_drewN le_add_r lt_add_r addr_add max2_i min2_i max_2 min_2

theorem look_any (B : Nat) (w0 w : World) (s : ByteArray) (hs : s.size ≤ 9223372036854775807) (hb : Below B w0 w) (hB : B ≤ w.heap.size) (hT : TabsAt B w0) (n : Int) (a : Int) (raw : Bool) :
    Calls Tryd.prog 10 #[.int .i64 n, .string s, .int .i64 a, .bool raw] w fun e w' => e = .returned (.tuple #[.bool (lookB n s a raw), .int .i64 (lookE n s a raw)]) ∧ Below w.heap.size w w' := by
  by_cases c1 : n < 1 ∨ 8 < n ∨ (6 < n ∧ raw = false)
  · exact look_arg w n s a raw c1
  have d1 : 1 ≤ n := by omega
  have d2 : n ≤ 8 := by omega
  have d3 : raw = false → n ≤ 6 := fun h => by
    rcases Int.lt_or_le 6 n with h' | h'
    · exact absurd (.inr (.inr ⟨h', h⟩)) c1
    · exact h'
  by_cases c2 : a < 0 ∨ (s.size : Int) < a
  · exact look_rng w n s a raw d1 d2 d3 c2
  obtain ⟨m, rfl⟩ := Int.eq_ofNat_of_zero_le (show 0 ≤ a by omega)
  have e3 : m ≤ s.size := by omega
  cases raw
  · have d4 := d3 rfl
    by_cases hbd : border s (m : Int) = true
    · have hn : n = 1 ∨ n = 2 ∨ n = 3 ∨ n = 4 ∨ n = 5 ∨ n = 6 := by omega
      rcases hn with rfl | rfl | rfl | rfl | rfl | rfl
      · exact lookF1 B w0 w s hs hb hB hT m e3 hbd
      · exact lookF2 B w0 w s hs hb hB hT m e3 hbd
      · exact lookF3 B w0 w s hs hb hB hT m e3 hbd
      · exact lookF4 B w0 w s hs hb hB hT m e3 hbd
      · exact lookF5 B w0 w s hs hb hB hT m e3 hbd
      · exact lookF6 B w0 w s hs hb hB hT m e3 hbd
    · exact lookFbad B w0 w s hs hb hB hT n d1 d4 m e3 (by simpa using hbd)
  · have hn : n = 1 ∨ n = 2 ∨ n = 3 ∨ n = 4 ∨ n = 5 ∨ n = 6 ∨ n = 7 ∨ n = 8 := by omega
    rcases hn with rfl | rfl | rfl | rfl | rfl | rfl | rfl | rfl
    · exact lookT1 B w0 w s hs hb hB hT m e3
    · exact lookT2 B w0 w s hs hb hB hT m e3
    · exact lookT3 B w0 w s hs hb hB hT m e3
    · exact lookT4 B w0 w s hs hb hB hT m e3
    · exact lookT5 B w0 w s hs hb hB hT m e3
    · exact lookT6 B w0 w s hs hb hB hT m e3
    · exact lookT7 B w0 w s hs hb hB hT m e3
    · exact lookT8 B w0 w s hs hb hB hT m e3
end Go.Proofs.YtmbboianghbjkaaDoor
