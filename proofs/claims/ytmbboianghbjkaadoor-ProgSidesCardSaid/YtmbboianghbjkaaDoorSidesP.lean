/-
  PROVED: the statement thistlelaw12.ProgSides answers true for every text and every place, and leaves its arguments as they read. CONDITIONS: those of the given row: the package-level variables sets.bands, utf8.first and utf8.acceptRanges start as the program's text lays them (the card ties them).
-/
import Derived.Test.YtmbboianghbjkaaDoorSidesJ
import Derived.Test.YtmbboianghbjkaaDoorTie
import Derived.Test.YtmbboianghbjkaaDoorCards
import Derived.ProofKit
import Derived.OpenShut
import Derived.LaidMore
import Derived.Lay
import Derived.SevenTiedAt
import Derived.Stop.Joined
import Derived.Lib.LaidU8
import Derived.PinnedBridge
namespace Go.Proofs.YtmbboianghbjkaaDoor
open Go.ChangeShapes Go.WideShapes Go.ChangeAt Go.RowKit Go.Lib
open Go.ChangeMaps (open_string shut_string)
set_option linter.unusedVariables false

theorem own : ownKnob Tryd.prog.godebug = none := by kernel_rfl
theorem accept_eq : (Rows.laid_unicode_utf8_acceptRanges : DataW Unit) = acceptData := by kernel_rfl
theorem first_eq : (Rows.laid_unicode_utf8_first : DataW Unit) = firstData := Pinned.utf8First_eq

theorem tabs_of_laid {W : World} (h3 : VarReads Tryd.prog W "unicode/utf8.first" Rows.laid_unicode_utf8_first) (h4 : VarReads Tryd.prog W "unicode/utf8.acceptRanges" Rows.laid_unicode_utf8_acceptRanges) : Lib.Utf8Tabs 0 1 W := by
  rw [first_eq] at h3
  rw [accept_eq] at h4
  exact utf8Tabs_of_reads (ρ := Tryd.lays260_ren) Tryd.lays260 ⟨by kernel_rfl, by kernel_rfl, by kernel_rfl, by kernel_rfl, by kernel_rfl, by kernel_rfl, by kernel_rfl⟩ h3 h4
theorem cell_ext {W : World} {b i : Nat} {v : Value} (h : W.cell? ⟨b, i, none⟩ = some v) (w' : World) (hw : Below W.heap.size W w') : w'.cell? ⟨b, i, none⟩ = some v := by
  obtain ⟨o, ho, _⟩ := cells_of_cell h
  exact (hw.cell (p := ⟨b, i, none⟩) (Array.getElem?_eq_some_iff.1 ho).1).trans h
theorem tabs_ext {W : World} (h : Lib.Utf8Tabs 0 1 W) : TabsAt W.heap.size W :=
  ⟨fun w' hw => ⟨fun c hc => cell_ext (h.1 c hc) w' hw, fun i hi => ⟨cell_ext (h.2 i hi).1 w' hw, cell_ext (h.2 i hi).2 w' hw⟩⟩⟩
set_option maxRecDepth 100000 in
theorem bands_of_laid {W : World} (h : VarReads Tryd.prog W "thistle/sets.bands" Rows.laid_thistle_sets_bands) (k : Nat) (hk : k < 3) :
    W.cell? ⟨2, k * 2, none⟩ = some (.int .i32 (if k = 0 then 0 else if k = 1 then 57344 else 1114240)) ∧ W.cell? ⟨2, k * 2 + 1, none⟩ = some (.int .i32 (if k = 0 then 55295 else if k = 1 then 1114111 else 1114367)) := by
  obtain ⟨g, t, cs, fuel, p, hg, hty, hvar, hd⟩ := h
  obtain rfl := Option.some.inj ((show Tryd.prog.globalNamed "thistle/sets.bands" = some 2 by kernel_rfl).symm.trans hg)
  obtain rfl := Option.some.inj ((show (Tryd.prog.globals[2]?).map (·.type) = some 181 by kernel_rfl).symm.trans hty)
  obtain ⟨fuel', d, q, hdi, he⟩ := array_elem Tryd.underlying181 hd k hk
  have c2 : Tryd.prog.cellsOf 96 = 2 := by kernel_rfl
  have c1 : Tryd.prog.cellsOf 21 = 1 := by kernel_rfl
  have hdk : d = .agg ([(if k = 0 then 0 else if k = 1 then 57344 else 1114240 : Int), (if k = 0 then 55295 else if k = 1 then 1114111 else 1114367 : Int)].map fun z => .lit (.int .i32 z)) := by
    match k, hk, hdi with
    | 0, _, e => exact (Option.some.inj e).symm
    | 1, _, e => exact (Option.some.inj e).symm
    | 2, _, e => exact (Option.some.inj e).symm
  subst hdk
  rw [c2] at he
  have hcs := ints_of_struct Tryd.underlying96 (fun j f hj => by
      match j, hj with
      | 0, hj => simp at hj; subst hj; exact ⟨Tryd.underlying21, rfl, c1⟩
      | 1, hj => simp at hj; subst hj; exact ⟨Tryd.underlying21, rfl, c1⟩
      | j + 2, hj => simp at hj) (by rw [c2]; rfl) he
  have e0 := congrArg (·[0]?) hcs
  have e1 := congrArg (·[1]?) hcs
  simp only [List.getElem?_take, List.getElem?_drop] at e0 e1
  constructor
  · rw [World.var?_cell hg hvar (k * 2), ← Array.getElem?_toList]
    simpa using e0
  · rw [World.var?_cell hg hvar (k * 2 + 1), ← Array.getElem?_toList]
    simpa using e1

set_option maxRecDepth 100000 in
theorem sides_lifted (os : Os) (started : os.Started) (H : Type) (enc : TypeId × Value → H) :
    ReturnsInHanded {} Tryd.checked os 4 .any (fun w args => (Rows.progSidesSpec.pre enc Tryd.prog Tryd.f4 Rows.progSidesRow.domain false w args ∧ laidMetH Tryd.prog Rows.progSidesRow.laid w) ∧ sizedMet enc Tryd.prog Tryd.f4 (OpenSpec.ofChange Rows.progSidesSpec) false w args)
      (Rows.progSidesSpec.post enc Tryd.prog Tryd.f4 false true false false) := by
  refine returnsInHanded_of_change_and (C := Tryd.checked) (X := fun w _ => laidMetH Tryd.prog Rows.progSidesRow.laid w) (fun _ _ _ hh h => h.of_heap hh) own started (by kernel_rfl) Tryd.func4
    (ChangeSpec.witness_shaped (enc := enc) (C := Tryd.checked) (os := os) (X := fun w _ => laidMetH Tryd.prog Rows.progSidesRow.laid w) false (World.laidAll Tryd.prog os Rows.progSidesRow.laid) #[.string ⟨#[]⟩, .int .i64 0] 8 (World.laidAll_os _ _ _)
      (World.shaped_of_ZipB (by kernel_rfl) (by kernel_rfl)) (by kernel_rfl) (by kernel_rfl) (by kernel_rfl)
      (by rw [MakeChecks.laidMetH_plain _ _ _ (by kernel_rfl)]; exact laidMet_laidAll _ (by kernel_rfl) (by kernel_rfl))) ?_
  intro W base args ds gs before hval0 hW hc _ hL0 _
  have hL : laidMet Tryd.prog Rows.progSidesRow.laid W := by
    have h := hL0
    rw [MakeChecks.laidMetH_plain _ _ _ (by kernel_rfl)] at h
    exact h
  have hval : ∀ (j : Nat) t v, Tryd.f4.params[j]? = some t → args[j]? = some v → Value.okWide Tryd.prog W .any base t v := hval0
  have hW' := hW
  obtain ⟨p, q, hA0, hV, rfl, _, _⟩ := hW
  have hA : DataW.TrodAll enc Tryd.prog W 0 (fun _ => true) true Tryd.f4.params.toList args.toList ds p := hA0
  rw [Tryd.params4] at hA hval
  obtain ⟨v0, v1, d0, d1, p0, p1, rfl, rfl, rfl, h0, h1⟩ := trodAll_two hA
  obtain ⟨rfl, rfl⟩ := trodVars_none hV
  obtain ⟨s, rfl, rfl, rfl, ws⟩ := open_string Tryd.underlying9 (hval 0 9 v0 rfl rfl) h0
  obtain ⟨x, rfl, rfl, rfl, wx⟩ := open_int Tryd.underlying3 (hval 1 3 v1 rfl rfl) h1
  have hT : Lib.Utf8Tabs 0 1 W := tabs_of_laid (Lib.laidMet.reads hL (.tail _ (.tail _ (.head _)))) (Lib.laidMet.reads hL (.head _))
  have hG := bands_of_laid (Lib.laidMet.reads hL (.tail _ (.head _)))
  have hGA : BandsAt W.heap.size W := ⟨fun k hk w' hw => cell_ext (hG k hk).1 w' hw, fun k hk w' hw => cell_ext (hG k hk).2 w' hw⟩
  have hs : s.size ≤ 9223372036854775807 := by unfold maxLen at ws; omega
  simp only [List.append_nil] at hW'
  refine (sides_any W.heap.size W W s hs (Below.refl _ _) (Nat.le_refl _) hGA (tabs_ext hT) x).mono fun e W' ⟨he, bel⟩ => ?_
  subst he
  refine ⟨_, rfl, _, _, _, [], [], [], hW', ?_, ?_, ?_, bel.frame _, fun h => by cases h⟩
  · exact trodAll_mk1 (shut_bool Tryd.underlying4 _)
  · exact trodAll_mk2 (shut_string Tryd.underlying9 ws) (shut_int Tryd.underlying3 wx)
  · rfl

theorem sides_holds : Rows.ProgSidesSaid :=
  OpenClaim.holds_of_wide 4 Tryd.f4 rfl rfl rfl rfl rfl rfl rfl ⟨rfl, rfl, rfl, rfl, rfl⟩ rfl rfl rfl rfl rfl (by kernel_rfl) Tryd.func4 (by kernel_rfl)
    (of_decide_eq_true (by kernel_rfl)) (by unfold Func.isWrapper; first | (rw [if_pos (by decide +kernel)]; kernel_rfl) | (rw [if_neg (by decide +kernel)]; exact ⟨rfl, rfl⟩))
    (fun os started H enc _ => sides_lifted os started H enc)
/-- ████ THE TIED CARD. -/
theorem sides_card : Rows.ProgSidesCardSaid :=
  Claim7.holds_tied_plain_at .later [] [.data, .widerDeep, .pinned] true (true, "56c04e89eb1a6ddff4781acec3f64bbe3a43ba34fabfd3312da655d8e87fa87f") false sides_holds (fun _ h => by cases h) (by kernel_rfl) (fun _ h => by cases h) progSides_row_tie rfl ⟨rfl, rfl⟩ (by kernel_rfl) rfl
    (fun f fn hf hfn => by
      obtain rfl : f = 4 := Option.some.inj ((show Tryd.prog.funcNamed "thistle/thistlelaw12.ProgSides" = some 4 by kernel_rfl).symm.trans hf) |>.symm
      obtain rfl : fn = Tryd.f4 := (Option.some.inj (Tryd.func4.symm.trans hfn)).symm
      exact ⟨by kernel_rfl, fun j t ht => by
        rw [Tryd.params4] at ht
        have hm : t ∈ [9, 3] := by simpa using Array.mem_of_getElem? ht
        have hall : ([9, 3].all fun u => !Tryd.prog.wantsStandIn u) = true := by kernel_rfl
        exact (show Tryd.prog.wantsStandIn t = false by simpa using List.all_eq_true.1 hall t hm)⟩)
    (by kernel_rfl)
#print axioms sides_card
end Go.Proofs.YtmbboianghbjkaaDoor
