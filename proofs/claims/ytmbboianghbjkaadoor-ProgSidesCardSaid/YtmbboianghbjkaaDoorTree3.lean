import Derived.Test.YtmbboianghbjkaaDoorTree2
namespace Go.Proofs.YtmbboianghbjkaaDoor
open Go.RowKit
set_option linter.unusedVariables false
set_option linter.unusedSimpArgs false
attribute [local go_sem] bl_refl bl_alloc bl_a2 bl_a3 bl_a4 bl_a5 bl_set bl_drew bl_drewN le_add_r lt_add_r addr_add

set_option maxHeartbeats 2000000 in
theorem fields_any (B : Nat) (w0 : World) (op mn mx gr lk : Int) (lz raw : Bool) (set : List (Int × Int)) (kids : List Int) (sv kv : Value) (w : World) (hb : Below B w0 w) (hB : B ≤ w.heap.size)
    (hs : Sl (RngAt B w0) 2 sv set) (hg : BandsAt B w0) (hk : ∃ A n c, kv = .slice A n c) :
    Calls Tryd.prog 127 #[.agg #[.int .i64 op, sv, kv, .int .i64 mn, .int .i64 mx, .bool lz, .int .i64 gr, .int .i64 lk], .bool raw] w fun e w' => e = .returned (.bool (fldOk ⟨op, set, kids, mn, mx, lz, gr, lk⟩ raw)) ∧ Below w.heap.size w w' := by
  obtain ⟨A2, n2, c2, rfl⟩ := hk
  have hs' := Lib.hid hs
  obtain ⟨A, c, rfl, h1, h2, h3⟩ := hs
  have H3 := Lib.hid h3
  clear h3
  by_cases o4 : op = 4
  · subst o4
    go_enter Tryd.func127, Tryd.ntmps127
    go_wp2
    go_region
    go_wp2
    all_goals
      go_ret
      refine ⟨ret_bool ?_, by simp (config := { maxDischargeDepth := 12 }) [bl_refl, bl_alloc, bl_drew, bl_drewN]⟩
      unfold fldOk
      dsimp only
      rw [Bool.eq_iff_iff]
      simp [*]
      try omega
  · by_cases o5 : op = 5
    · subst o5
      go_enter Tryd.func127, Tryd.ntmps127
      go_wp2
      all_goals
        go_ret
        refine ⟨ret_bool ?_, by simp (config := { maxDischargeDepth := 12 }) [bl_refl, bl_alloc, bl_drew, bl_drewN]⟩
        unfold fldOk
        dsimp only
        rw [Bool.eq_iff_iff]
        simp [*]
        try omega
    · by_cases o6 : op = 6
      · subst o6
        go_enter Tryd.func127, Tryd.ntmps127
        go_wp2
        all_goals
          go_ret
          refine ⟨ret_bool ?_, by simp (config := { maxDischargeDepth := 12 }) [bl_refl, bl_alloc, bl_drew, bl_drewN]⟩
          unfold fldOk
          dsimp only
          rw [Bool.eq_iff_iff]
          simp [*]
          try omega
      · by_cases o1 : op = 1
        · subst o1
          exact fields_1 B w0 mn mx gr lk lz raw set kids _ _ w hb hB hs'.out hg ⟨_, _, _, rfl⟩
        · have n4 : (op == 4) = false := by simpa using o4
          have n5 : (op == 5) = false := by simpa using o5
          have n6 : (op == 6) = false := by simpa using o6
          have n1 : (op == 1) = false := by simpa using o1
          go_enter Tryd.func127, Tryd.ntmps127
          go_wp2
          all_goals
            go_ret
            refine ⟨ret_bool ?_, by simp (config := { maxDischargeDepth := 12 }) [bl_refl, bl_alloc, bl_drew, bl_drewN]⟩
            unfold fldOk
            dsimp only
            rw [Bool.eq_iff_iff]
            simp [*]
            try omega
end Go.Proofs.YtmbboianghbjkaaDoor
