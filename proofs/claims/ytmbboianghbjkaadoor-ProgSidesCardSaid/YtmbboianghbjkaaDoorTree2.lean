import Derived.Test.YtmbboianghbjkaaDoorTree1
namespace Go.Proofs.YtmbboianghbjkaaDoor
open Go.RowKit
set_option linter.unusedVariables false
set_option linter.unusedSimpArgs false
attribute [local go_sem] bl_refl bl_alloc bl_a2 bl_a3 bl_a4 bl_a5 bl_set bl_drew bl_drewN le_add_r lt_add_r addr_add

def fldOk (n : Node) (raw : Bool) : Bool :=
  (if n.op = 1 then chkAll n.set && !(raw && decide (0 < n.set.length) && decide (255 < (n.set.getD (n.set.length - 1) (0, 0)).2)) else decide (n.set.length = 0)) &&
  (decide (n.op = 4) || (decide (n.min = 0) && decide (n.max = 0) && !n.lzy)) &&
  (decide (n.op = 5) || decide (n.group = 0)) &&
  (if n.op = 6 then decide (1 ≤ n.look) && decide (n.look ≤ 6) else decide (n.look = 0))

set_option maxHeartbeats 2000000 in
theorem fields_1 (B : Nat) (w0 : World) (mn mx gr lk : Int) (lz raw : Bool) (set : List (Int × Int)) (kids : List Int) (sv kv : Value) (w : World) (hb : Below B w0 w) (hB : B ≤ w.heap.size)
    (hs : Sl (RngAt B w0) 2 sv set) (hg : BandsAt B w0) (hk : ∃ A n c, kv = .slice A n c) :
    Calls Tryd.prog 127 #[.agg #[.int .i64 1, sv, kv, .int .i64 mn, .int .i64 mx, .bool lz, .int .i64 gr, .int .i64 lk], .bool raw] w fun e w' => e = .returned (.bool (fldOk ⟨1, set, kids, mn, mx, lz, gr, lk⟩ raw)) ∧ Below w.heap.size w w' := by
  obtain ⟨A2, n2, c2, rfl⟩ := hk
  have hs' := Lib.hid hs
  obtain ⟨A, c, rfl, h1, h2, h3⟩ := hs
  have H3 := Lib.hid h3
  clear h3
  go_enter Tryd.func127, Tryd.ntmps127
  go_wp2_with fail
  refine (setsCheck_any B set _ w0 _ ((hb.alloc hB _).alloc (by simp; omega) _) (by simp; omega) hs'.out hg).mono ?_
  rintro e w1 ⟨rfl, hb1⟩
  obtain ⟨bc, bf⟩ := bcell hb1
  simp only [World.size_alloc] at hb1 bc bf
  have hb2 : Below w.heap.size w w1 := (((Below.refl _ _).alloc (Nat.le_refl _) _).alloc (by simp) _).trans (hb1.mono (by omega))
  have hb3 : Below B w0 w1 := hb.trans (hb2.mono hB)
  by_cases hc : chkAll set = true
  · rw [hc]
    rcases Nat.eq_zero_or_pos set.length with hz | hp
    · have hz' : set = [] := List.length_eq_zero_iff.mp hz
      subst hz'
      cases raw
      · go_wp2
        all_goals
          go_ret
          refine ⟨ret_bool ?_, by simp (config := { maxDischargeDepth := 12 }) [bl_refl, bl_alloc, bl_drew, bl_drewN, bl_set, hb2]⟩
          unfold fldOk
          dsimp only
          rw [Bool.eq_iff_iff]
          simp [*]
          try omega
      · go_wp2
        all_goals
          go_ret
          refine ⟨ret_bool ?_, by simp (config := { maxDischargeDepth := 12 }) [bl_refl, bl_alloc, bl_drew, bl_drewN, bl_set, hb2]⟩
          unfold fldOk
          dsimp only
          rw [Bool.eq_iff_iff]
          simp [*]
          try omega
    · obtain ⟨b, o, rfl, hR⟩ := H3.out hp
      have hl := (hR (set.length - 1) (by omega)).hi
      have HF : Hid (fldOk ⟨1, set, kids, mn, mx, lz, gr, lk⟩ raw = ((chkAll set && !(raw && decide (0 < set.length) && decide (255 < (set.getD (set.length - 1) (0, 0)).2))) && (decide (mn = 0) && decide (mx = 0) && !lz) && decide (gr = 0) && decide (lk = 0))) := by simp [Hid, fldOk]
      rw [getD_at set (set.length - 1) (0, 0) (by omega)] at hl
      generalize (set.getD (set.length - 1) (0, 0)).2 = y at *
      clear hR H3 hs'
      have hp' : (0 : Int) < (set.length : Int) := by omega
      cases raw
      · go_wp2
        all_goals
          go_ret
          refine ⟨ret_bool ?_, by simp (config := { maxDischargeDepth := 12 }) [bl_refl, bl_alloc, bl_drew, bl_drewN, bl_set, hb2]⟩
          rw [HF.out]
          rw [Bool.eq_iff_iff]
          simp [*]
          try omega
      · by_cases hy : 255 < y
        · go_wp2
          all_goals
            go_ret
            refine ⟨ret_bool ?_, by simp (config := { maxDischargeDepth := 12 }) [bl_refl, bl_alloc, bl_drew, bl_drewN, bl_set, hb2]⟩
            rw [HF.out]
            rw [Bool.eq_iff_iff]
            simp [*]
            try omega
        · go_wp2
          all_goals
            go_ret
            refine ⟨ret_bool ?_, by simp (config := { maxDischargeDepth := 12 }) [bl_refl, bl_alloc, bl_drew, bl_drewN, bl_set, hb2]⟩
            rw [HF.out]
            rw [Bool.eq_iff_iff]
            simp [*]
            try omega
  · have hc' : chkAll set = false := by simpa using hc
    rw [hc']
    go_wp2
    all_goals
      go_ret
      refine ⟨ret_bool ?_, by simp (config := { maxDischargeDepth := 12 }) [bl_refl, bl_alloc, bl_drew, bl_drewN, bl_set, hb2]⟩
      unfold fldOk
      dsimp only
      rw [Bool.eq_iff_iff]
      simp [*]
      try omega
end Go.Proofs.YtmbboianghbjkaaDoor
