import Derived.Test.YtmbboianghbjkaaDoorBack
namespace Go.Proofs.YtmbboianghbjkaaDoor
open Go.RowKit Go.Shelf
theorem back_any (A : Option Addr) (n c : Nat) (w : World) : Calls Tryd.prog 77 #[.slice A n c] w fun e w' => e = .returned (.func (.func 118) #[] #[.pointer (some ⟨w.heap.size, 0, none⟩)]) ∧ w' = w.alloc (.cells #[.slice A n c] 74) := by
  go_enter Tryd.func77, Tryd.ntmps77
  go_wp2
  go_ret
  exact ⟨rfl, rfl⟩
end Go.Proofs.YtmbboianghbjkaaDoor
