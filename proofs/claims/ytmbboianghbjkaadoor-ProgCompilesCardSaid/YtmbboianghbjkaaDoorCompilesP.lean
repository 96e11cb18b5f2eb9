/-
  PROVED: the statement thistlelaw12.ProgCompiles answers true for every tree, sound or not, and leaves its argument as it reads. CONDITIONS: those of the given row: the package-level variables sets.bands, utf8.first and utf8.acceptRanges start as the program's text lays them (the card ties them).
-/
import Derived.Test.YtmbboianghbjkaaDoorCompiles
import Derived.Test.YtmbboianghbjkaaDoorOpenO
namespace Go.Proofs.YtmbboianghbjkaaDoor
open Go.ChangeShapes Go.WideShapes Go.ChangeAt Go.RowKit Go.Lib
open Go.ChangeMaps (open_string shut_string)
set_option linter.unusedVariables false

set_option maxRecDepth 100000 in
theorem progCompiles_lifted (os : Os) (started : os.Started) (H : Type) (enc : TypeId × Value → H) :
    ReturnsInHanded {} Tryd.checked os 7 .any (fun w args => (Rows.progCompilesSpec.pre enc Tryd.prog Tryd.f7 Rows.progCompilesRow.domain false w args ∧ laidMetH Tryd.prog Rows.progCompilesRow.laid w) ∧ sizedMet enc Tryd.prog Tryd.f7 (OpenSpec.ofChange Rows.progCompilesSpec) false w args)
      (Rows.progCompilesSpec.post enc Tryd.prog Tryd.f7 false true false false) := by
  refine returnsInHanded_of_change_and (C := Tryd.checked) (X := fun w _ => laidMetH Tryd.prog Rows.progCompilesRow.laid w) (fun _ _ _ hh h => h.of_heap hh) own started (by kernel_rfl) Tryd.func7
    (ChangeSpec.witness_shaped (enc := enc) (C := Tryd.checked) (os := os) (X := fun w _ => laidMetH Tryd.prog Rows.progCompilesRow.laid w) false (World.laidAll Tryd.prog os Rows.progCompilesRow.laid) #[.agg #[.slice none 0 0, .slice none 0 0, .bool false]] 8 (World.laidAll_os _ _ _)
      (World.shaped_of_ZipB (by kernel_rfl) (by kernel_rfl)) (by kernel_rfl) (by kernel_rfl) (by kernel_rfl)
      (by rw [MakeChecks.laidMetH_plain _ _ _ (by kernel_rfl)]; exact laidMet_laidAll _ (by kernel_rfl) (by kernel_rfl))) ?_
  intro W base args ds gs before hval0 hW hc hsz0 hL0 _
  have hL : laidMet Tryd.prog Rows.progCompilesRow.laid W := by
    have h := hL0
    rw [MakeChecks.laidMetH_plain _ _ _ (by kernel_rfl)] at h
    exact h
  have hval : ∀ (j : Nat) t v, Tryd.f7.params[j]? = some t → args[j]? = some v → Value.okWide Tryd.prog W .any base t v := hval0
  have hsz : (DataW.weightsEach Tryd.prog (Tryd.f7.params.toList ++ Rows.progCompilesSpec.plain.varTypes Tryd.prog) (ds ++ gs)).all (· ≤ reachBytes) = true := hsz0
  have hW' := hW
  obtain ⟨p, q, hAA, hV, rfl, _, _⟩ := hW
  have hA : DataW.TrodAll enc Tryd.prog W 0 (fun _ => true) true Tryd.f7.params.toList args.toList ds p := hAA
  rw [Tryd.params7] at hA hval hsz
  obtain ⟨v0, vs0, d0, ds0, p0, q0, hargs, rfl, rfl, h0, r0⟩ := trodAll_cons hA
  obtain ⟨rfl, rfl, rfl⟩ := trodAll_nil r0
  obtain rfl : args = #[v0] := by cases args; simp_all
  obtain ⟨rfl, rfl⟩ := trodVars_none hV
  have k0 := h0
  have lt0 : ∀ x ∈ p0, x.block < W.heap.size := by obtain ⟨m, hm⟩ := k0; exact DataW.trod_lt m _ _ _ hm
  have wt0 : ∀ n ∈ d0.weights Tryd.prog 35, n ≤ reachBytes := fun n hn => by have := List.all_eq_true.1 hsz n (DataW.weights_mem_each (j := 0) (t := 35) (d := d0) rfl rfl n hn); simpa using this
  obtain ⟨nv, sv, t, rfl, tr0, nl0, no0, sl0, st0⟩ := open_treeO (hval 0 35 v0 rfl rfl) h0 wt0
  have hT : Lib.Utf8Tabs 0 1 W := tabs_of_laid (Lib.laidMet.reads hL (.tail _ (.tail _ (.head _)))) (Lib.laidMet.reads hL (.head _))
  have hG := bands_of_laid (Lib.laidMet.reads hL (.tail _ (.head _)))
  have hGA : BandsAt W.heap.size W := ⟨fun k hk w' hw => cell_ext (hG k hk).1 w' hw, fun k hk w' hw => cell_ext (hG k hk).2 w' hw⟩
  simp only [List.append_nil] at hW'
  clear hAA hval0 hsz0 hsz
  have hin : TreeIn W nv sv t := ⟨tr0, by unfold reachBytes at nl0; omega, by unfold reachBytes at sl0; omega, fun n hn => by obtain ⟨⟨q1, _⟩, q2⟩ := no0 n hn; unfold reachBytes at q1 q2; exact ⟨by omega, by omega⟩, fun x hx => by have := st0 x hx; unfold reachBytes at this; omega, fun n hn => (no0 n hn).1.2⟩
  refine (compiles_any W nv sv t hin hGA (tabs_ext hT)).mono fun e W' ⟨he, bel⟩ => ?_
  subst he
  exact ⟨_, rfl, _, _, _, [], _, [], hW', trodAll_mk1 (shut_bool Tryd.underlying4 _), (trodAll_cons_mk (Below.trod laidOut (by kernel_rfl) (of_decide_eq_true (by kernel_rfl)) k0 bel lt0) trodAll_mk0), rfl, bel.frame _, fun h => by cases h⟩

theorem progCompiles_holds : Rows.ProgCompilesSaid :=
  OpenClaim.holds_of_wide 7 Tryd.f7 rfl rfl rfl rfl rfl rfl rfl ⟨rfl, rfl, rfl, rfl, rfl⟩ rfl rfl rfl rfl rfl (by kernel_rfl) Tryd.func7 (by kernel_rfl)
    (of_decide_eq_true (by kernel_rfl)) (by unfold Func.isWrapper; first | (rw [if_pos (by decide +kernel)]; kernel_rfl) | (rw [if_neg (by decide +kernel)]; exact ⟨rfl, rfl⟩))
    (fun os started H enc _ => progCompiles_lifted os started H enc)
/-- ████ THE TIED CARD. -/
theorem progCompiles_card : Rows.ProgCompilesCardSaid :=
  Claim7.holds_tied_plain_at .later [] [.data, .widerDeep, .pinned] true (true, "56c04e89eb1a6ddff4781acec3f64bbe3a43ba34fabfd3312da655d8e87fa87f") false progCompiles_holds (fun _ h => by cases h) (by kernel_rfl) (fun _ h => by cases h) progCompiles_row_tie rfl ⟨rfl, rfl⟩ (by kernel_rfl) rfl
    (fun f fn hf hfn => by
      obtain rfl : f = 7 := Option.some.inj ((show Tryd.prog.funcNamed "thistle/thistlelaw12.ProgCompiles" = some 7 by kernel_rfl).symm.trans hf) |>.symm
      obtain rfl : fn = Tryd.f7 := (Option.some.inj (Tryd.func7.symm.trans hfn)).symm
      exact ⟨by kernel_rfl, fun j t ht => by
        rw [Tryd.params7] at ht
        have hm : t ∈ [35] := by simpa using Array.mem_of_getElem? ht
        have hall : ([35].all fun u => !Tryd.prog.wantsStandIn u) = true := by kernel_rfl
        exact (show Tryd.prog.wantsStandIn t = false by simpa using List.all_eq_true.1 hall t hm)⟩)
    (by kernel_rfl)
#print axioms progCompiles_card
end Go.Proofs.YtmbboianghbjkaaDoor
