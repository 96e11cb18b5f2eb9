import Derived.Test.YtmbboianghbjkaaDoorData
namespace Go.Proofs.YtmbboianghbjkaaDoor
open Go.RowKit

/-- A world that is as W was below block B, and no smaller. -/
structure Ex (B : Nat) (W : World) where
  val : World
  prop : Below B W val
  le : B ≤ val.heap.size
/-- A region whose order is open, whose operations read, and whose callees at most make memory: one walk, in the order of the text. -/
theorem wp_region_ex {P : Program} {id : Nat} {Q : Exit → Act → World → Prop} {a : Act} {w : World} {l : List Oper} (B : Nat) (hB : B ≤ w.heap.size) (hm : P.follows .mixedOrders = true) (hl : Region.lexB .any l.toArray = true)
    (h : wpQuiet P l.toArray (fun w' => ∃ x : Ex B w, w' = x.val) (fun a' => ∀ w', (∃ x : Ex B w, w' = x.val) → Q .normal a' w') l a) : (Code.region id l.toArray true).wp P Q a w :=
  wp_region_quiet (C := fun w' => ∃ x : Ex B w, w' = x.val) hm hl ⟨⟨w.drew, (Below.refl B w).drew, hB⟩, rfl⟩ (by simpa using h)
theorem Ex.old {B : Nat} {W : World} (x : Ex B W) {b o : Nat} (h : b < B) : x.val.cell? ⟨b, o, none⟩ = W.cell? ⟨b, o, none⟩ := x.prop.cell (p := ⟨b, o, none⟩) h
theorem quiet_call {P : Program} {f : FuncId} {args : Array Value} {B : Nat} {W : World} {v : Value} (x : Ex B W)
    (h : Calls P f args x.val fun e w' => e = .returned v ∧ Below x.val.heap.size x.val w') : Calls P f args x.val fun e w'' => e = .returned v ∧ ∃ y : Ex B W, w'' = y.val :=
  h.mono fun _ w' ⟨he, hw⟩ => ⟨he, ⟨w', x.prop.trans (hw.mono x.le), Nat.le_trans x.le hw.size⟩, rfl⟩
theorem quiet_draw {P : Program} {f : FuncId} {args : Array Value} {B : Nat} {W : World} {v : Value} (x : Ex B W)
    (h : Calls P f args x.val fun e w' => e = .returned v ∧ ∃ n, w' = x.val.drewN n) : Calls P f args x.val fun e w'' => e = .returned v ∧ ∃ y : Ex B W, w'' = y.val :=
  h.mono fun _ _ ⟨he, n, hw⟩ => ⟨he, ⟨x.val.drewN n, below_drewN x.prop n, x.le⟩, hw⟩
end Go.Proofs.YtmbboianghbjkaaDoor
