import Derived.Test.YtmbboianghbjkaaDoorSidesA
import Derived.Test.YtmbboianghbjkaaDoorSidesB
import Derived.Test.YtmbboianghbjkaaDoorSidesC
import Derived.Test.YtmbboianghbjkaaDoorSidesD
namespace Go.Proofs.YtmbboianghbjkaaDoor
open Go.RowKit Go.Shelf
theorem sides_any (B : Nat) (w0 w : World) (s : ByteArray) (hs : s.size ≤ 9223372036854775807) (hb : Below B w0 w) (hB : B ≤ w.heap.size) (hg : BandsAt B w0) (hT : TabsAt B w0) (a : Int) :
    Calls Tryd.prog 4 #[.string s, .int .i64 a] w fun e w' => e = .returned (.bool true) ∧ Below w.heap.size w w' := by
  by_cases c : a < 0 ∨ (s.size : Int) < a
  · exact sides_out B w0 w s hs hb hB hg hT a c
  obtain ⟨m, rfl⟩ := Int.eq_ofNat_of_zero_le (show 0 ≤ a by omega)
  have hm : m ≤ s.size := by omega
  by_cases z : m = 0
  · by_cases v : m = s.size
    · exact sidesA B w0 w s hs hb hB hg hT m hm z v
    · exact sidesB B w0 w s hs hb hB hg hT m hm z v
  · by_cases v : m = s.size
    · exact sidesC B w0 w s hs hb hB hg hT m hm z v
    · exact sidesD B w0 w s hs hb hB hg hT m hm z v
end Go.Proofs.YtmbboianghbjkaaDoor
