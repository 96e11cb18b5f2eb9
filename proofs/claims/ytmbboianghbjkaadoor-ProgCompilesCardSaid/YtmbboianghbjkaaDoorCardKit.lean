import Derived.Test.YtmbboianghbjkaaDoorAwake
import Derived.Test.YtmbboianghbjkaaDoorTie
import Derived.Test.YtmbboianghbjkaaDoorCards
import Derived.ProofKit
import Derived.OpenShut
import Derived.LaidMore
import Derived.Lay
import Derived.SevenTiedAt
import Derived.Stop.Joined
import Derived.Lib.LaidU8
import Derived.PinnedBridge
import Derived.SizedLaws
import Derived.Carry
import Derived.ChangeOld
namespace Go.Proofs.YtmbboianghbjkaaDoor
open Go.ChangeShapes Go.WideShapes Go.ChangeAt Go.RowKit Go.Lib
open Go.ChangeMaps (open_string shut_string)
set_option linter.unusedVariables false

theorem laidOut : laidOutB Tryd.prog = true := by kernel_rfl
theorem own : ownKnob Tryd.prog.godebug = none := by kernel_rfl
theorem accept_eq : (Rows.laid_unicode_utf8_acceptRanges : DataW Unit) = acceptData := by kernel_rfl
theorem first_eq : (Rows.laid_unicode_utf8_first : DataW Unit) = firstData := Pinned.utf8First_eq

theorem tabs_of_laid {W : World} (h3 : VarReads Tryd.prog W "unicode/utf8.first" Rows.laid_unicode_utf8_first) (h4 : VarReads Tryd.prog W "unicode/utf8.acceptRanges" Rows.laid_unicode_utf8_acceptRanges) : Lib.Utf8Tabs 0 1 W := by
  rw [first_eq] at h3
  rw [accept_eq] at h4
  exact utf8Tabs_of_reads (ρ := Tryd.lays260_ren) Tryd.lays260 ⟨by kernel_rfl, by kernel_rfl, by kernel_rfl, by kernel_rfl, by kernel_rfl, by kernel_rfl, by kernel_rfl⟩ h3 h4
theorem cell_ext {W : World} {b i : Nat} {v : Value} (h : W.cell? ⟨b, i, none⟩ = some v) (w' : World) (hw : Below W.heap.size W w') : w'.cell? ⟨b, i, none⟩ = some v := by
  obtain ⟨o, ho, _⟩ := cells_of_cell h
  exact (hw.cell (p := ⟨b, i, none⟩) (Array.getElem?_eq_some_iff.1 ho).1).trans h
theorem tabs_ext {W : World} (h : Lib.Utf8Tabs 0 1 W) : TabsAt W.heap.size W :=
  ⟨fun w' hw => ⟨fun c hc => cell_ext (h.1 c hc) w' hw, fun i hi => ⟨cell_ext (h.2 i hi).1 w' hw, cell_ext (h.2 i hi).2 w' hw⟩⟩⟩
set_option maxRecDepth 100000 in
theorem bands_of_laid {W : World} (h : VarReads Tryd.prog W "thistle/sets.bands" Rows.laid_thistle_sets_bands) (k : Nat) (hk : k < 3) :
    W.cell? ⟨2, k * 2, none⟩ = some (.int .i32 (if k = 0 then 0 else if k = 1 then 57344 else 1114240)) ∧ W.cell? ⟨2, k * 2 + 1, none⟩ = some (.int .i32 (if k = 0 then 55295 else if k = 1 then 1114111 else 1114367)) := by
  obtain ⟨g, t, cs, fuel, p, hg, hty, hvar, hd⟩ := h
  obtain rfl := Option.some.inj ((show Tryd.prog.globalNamed "thistle/sets.bands" = some 2 by kernel_rfl).symm.trans hg)
  obtain rfl := Option.some.inj ((show (Tryd.prog.globals[2]?).map (·.type) = some 181 by kernel_rfl).symm.trans hty)
  obtain ⟨fuel', d, q, hdi, he⟩ := array_elem Tryd.underlying181 hd k hk
  have c2 : Tryd.prog.cellsOf 96 = 2 := by kernel_rfl
  have c1 : Tryd.prog.cellsOf 21 = 1 := by kernel_rfl
  have hdk : d = .agg ([(if k = 0 then 0 else if k = 1 then 57344 else 1114240 : Int), (if k = 0 then 55295 else if k = 1 then 1114111 else 1114367 : Int)].map fun z => .lit (.int .i32 z)) := by
    match k, hk, hdi with
    | 0, _, e => exact (Option.some.inj e).symm
    | 1, _, e => exact (Option.some.inj e).symm
    | 2, _, e => exact (Option.some.inj e).symm
  subst hdk
  rw [c2] at he
  have hcs := ints_of_struct Tryd.underlying96 (fun j f hj => by
      match j, hj with
      | 0, hj => simp at hj; subst hj; exact ⟨Tryd.underlying21, rfl, c1⟩
      | 1, hj => simp at hj; subst hj; exact ⟨Tryd.underlying21, rfl, c1⟩
      | j + 2, hj => simp at hj) (by rw [c2]; rfl) he
  have e0 := congrArg (·[0]?) hcs
  have e1 := congrArg (·[1]?) hcs
  simp only [List.getElem?_take, List.getElem?_drop] at e0 e1
  constructor
  · rw [World.var?_cell hg hvar (k * 2), ← Array.getElem?_toList]
    simpa using e0
  · rw [World.var?_cell hg hvar (k * 2 + 1), ← Array.getElem?_toList]
    simpa using e1

end Go.Proofs.YtmbboianghbjkaaDoor
