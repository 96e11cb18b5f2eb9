import Derived.Test.YtmbboianghbjkaaDoorChkA
namespace Go.Proofs.YtmbboianghbjkaaDoor
open Go.RowKit Go.Shelf
set_option linter.unusedVariables false
set_option linter.unusedSimpArgs false
attribute [local go_sem] bl_refl bl_alloc bl_a2 bl_a3 bl_a4 bl_a5 bl_set bl_drew bl_drewN le_add_r lt_add_r Go.Proofs.YtmbboianghbjkaaDoor.addr_add

set_option maxHeartbeats 2000000 in
theorem rname_any (w : World) (s : ByteArray) (hs : s.size ≤ 140737488351232) :
    Calls Tryd.prog 120 #[.string s] w fun e w' => e = .returned (.bool (nmOk s)) ∧ w' = w := by
  by_cases h32 : s.size ≤ 32
  case neg =>
    have HN : Hid (nmOk s = false) := Lib.hid (by unfold nmOk; rw [decide_eq_false h32]; rfl)
    go_enter Tryd.func120, Tryd.ntmps120
    go_wp2
    go_ret
    exact ⟨ret_bool HN.out.symm, rfl⟩
  go_enter Tryd.func120, Tryd.ntmps120
  go_wp2
  go_loopw [3, 4, 5, 6] (fun v3 v4 v5 v6 wr => ∃ k : Nat, k ≤ s.size ∧ v3 = .int .i64 k ∧ (∀ j, j < k → letOk (s.get! j).toNat (decide (j = 0)) = true) ∧ wr = w) (fun v3 v4 v5 v6 _ => s.size - (intOf v3).toNat)
  case atStart => exact ⟨0, by omega, rfl, by omega, rfl⟩
  case round =>
    obtain ⟨k, hk, rfl, hn, rfl⟩ := hrel
    have HN := Lib.hid hn
    clear hn
    by_cases hlt : k < s.size
    · have eg : s[k].toNat = (s.get! k).toNat := by rw [get_at s k hlt]
      have hl : s[k].toNat < 256 := (s[k]).toNat_lt
      have HEG := Lib.hid eg
      clear eg
      go_upto_region 7 with (fail)
      generalize s[k].toNat = x at *
      have HX : Hid ((s.get! k).toNat = x) := Lib.hid HEG.out.symm
      clear HEG
      have hbad : letOk x (decide (k = 0)) = false → nmOk s = false := fun h => by
        unfold nmOk
        rw [Bool.and_eq_false_iff.2 (.inr (List.all_eq_false.2 ⟨k, by simpa using hlt, by rw [HX.out, h]; decide⟩))]
      have HBAD := Lib.hid hbad
      clear hbad
      have hok : letOk x (decide (k = 0)) = true → ∀ j, j < k + 1 → letOk (s.get! j).toNat (decide (j = 0)) = true := fun h j hj => by
        by_cases e : j = k
        · rw [e, HX.out]; exact h
        · exact HN.out j (by omega)
      have HOK := Lib.hid hok
      clear hok
      rcases (show (x ≤ 47) ∨ (48 ≤ x ∧ x ≤ 57) ∨ (58 ≤ x ∧ x ≤ 64) ∨ (65 ≤ x ∧ x ≤ 90) ∨ (91 ≤ x ∧ x ≤ 94) ∨ (x = 95) ∨ (x = 96) ∨ (97 ≤ x ∧ x ≤ 122) ∨ (123 ≤ x) by omega) with hr | hr | hr | hr | hr | hr | hr | hr | hr
      · skip
        have g65 : decide ((65 : Int) ≤ x) = false := by simp; omega
        have g97 : decide ((97 : Int) ≤ x) = false := by simp; omega
        have g48 : decide ((48 : Int) ≤ x) = false := by simp; omega
        have l90 : decide ((x : Int) ≤ 90) = true := by simp; omega
        have l122 : decide ((x : Int) ≤ 122) = true := by simp; omega
        have l57 : decide ((x : Int) ≤ 57) = true := by simp; omega
        have y95 : ((x : Int) == 95) = false := by simp; try omega
        go_wp2
        all_goals first | (exfalso; omega) | skip
        all_goals
          go_ret
          exact ⟨ret_bool (HBAD.out (by unfold letOk; simp; try omega)).symm, rfl⟩
      · obtain ⟨hr1, hr2⟩ := hr
        have g65 : decide ((65 : Int) ≤ x) = false := by simp; omega
        have g97 : decide ((97 : Int) ≤ x) = false := by simp; omega
        have g48 : decide ((48 : Int) ≤ x) = true := by simp; omega
        have l90 : decide ((x : Int) ≤ 90) = true := by simp; omega
        have l122 : decide ((x : Int) ≤ 122) = true := by simp; omega
        have l57 : decide ((x : Int) ≤ 57) = true := by simp; omega
        have y95 : ((x : Int) == 95) = false := by simp; try omega
        by_cases k0 : k = 0
        · have k0b : ((k : Int) == 0) = true := by simp [k0]
          have k0c : decide ((0 : Int) < k) = false := by simp; omega
          have k0d : (k : Int) ≤ 0 := by omega
          have hb0 := HBAD.out (by unfold letOk; simp [k0]; omega)
          have HB0 := Lib.hid hb0
          clear k0 hb0
          go_wp2
          all_goals first | (exfalso; omega) | skip
          all_goals
            go_ret
            exact ⟨ret_bool HB0.out.symm, rfl⟩
        · have k0b : ((k : Int) == 0) = false := by simp [k0]
          have k0c : decide ((0 : Int) < k) = true := by simp; omega
          have k0d : (0 : Int) < k := by omega
          go_wp2
          go_roundw
          case rel => exact ⟨k + 1, by omega, by go_num, HOK.out (by unfold letOk; simp; try omega), by first | rfl | trivial⟩
          case measure => simp [intOf]; omega
      · obtain ⟨hr1, hr2⟩ := hr
        have g65 : decide ((65 : Int) ≤ x) = false := by simp; omega
        have g97 : decide ((97 : Int) ≤ x) = false := by simp; omega
        have g48 : decide ((48 : Int) ≤ x) = true := by simp; omega
        have l90 : decide ((x : Int) ≤ 90) = true := by simp; omega
        have l122 : decide ((x : Int) ≤ 122) = true := by simp; omega
        have l57 : decide ((x : Int) ≤ 57) = false := by simp; omega
        have y95 : ((x : Int) == 95) = false := by simp; try omega
        go_wp2
        all_goals first | (exfalso; omega) | skip
        all_goals
          go_ret
          exact ⟨ret_bool (HBAD.out (by unfold letOk; simp; try omega)).symm, rfl⟩
      · obtain ⟨hr1, hr2⟩ := hr
        have g65 : decide ((65 : Int) ≤ x) = true := by simp; omega
        have g97 : decide ((97 : Int) ≤ x) = false := by simp; omega
        have g48 : decide ((48 : Int) ≤ x) = true := by simp; omega
        have l90 : decide ((x : Int) ≤ 90) = true := by simp; omega
        have l122 : decide ((x : Int) ≤ 122) = true := by simp; omega
        have l57 : decide ((x : Int) ≤ 57) = false := by simp; omega
        have y95 : ((x : Int) == 95) = false := by simp; try omega
        go_wp2
        go_roundw
        case rel => exact ⟨k + 1, by omega, by go_num, HOK.out (by unfold letOk; simp; try omega), by first | rfl | trivial⟩
        case measure => simp [intOf]; omega
      · obtain ⟨hr1, hr2⟩ := hr
        have g65 : decide ((65 : Int) ≤ x) = true := by simp; omega
        have g97 : decide ((97 : Int) ≤ x) = false := by simp; omega
        have g48 : decide ((48 : Int) ≤ x) = true := by simp; omega
        have l90 : decide ((x : Int) ≤ 90) = false := by simp; omega
        have l122 : decide ((x : Int) ≤ 122) = true := by simp; omega
        have l57 : decide ((x : Int) ≤ 57) = false := by simp; omega
        have y95 : ((x : Int) == 95) = false := by simp; try omega
        go_wp2
        all_goals first | (exfalso; omega) | skip
        all_goals
          go_ret
          exact ⟨ret_bool (HBAD.out (by unfold letOk; simp; try omega)).symm, rfl⟩
      · subst hr
        go_wp2
        go_roundw
        case rel => exact ⟨k + 1, by omega, by go_num, HOK.out (by unfold letOk; simp; try omega), by first | rfl | trivial⟩
        case measure => simp [intOf]; omega
      · subst hr
        go_wp2
        all_goals first | (exfalso; omega) | skip
        all_goals
          go_ret
          exact ⟨ret_bool (HBAD.out (by unfold letOk; simp; try omega)).symm, rfl⟩
      · obtain ⟨hr1, hr2⟩ := hr
        have g65 : decide ((65 : Int) ≤ x) = true := by simp; omega
        have g97 : decide ((97 : Int) ≤ x) = true := by simp; omega
        have g48 : decide ((48 : Int) ≤ x) = true := by simp; omega
        have l90 : decide ((x : Int) ≤ 90) = false := by simp; omega
        have l122 : decide ((x : Int) ≤ 122) = true := by simp; omega
        have l57 : decide ((x : Int) ≤ 57) = false := by simp; omega
        have y95 : ((x : Int) == 95) = false := by simp; try omega
        go_wp2
        go_roundw
        case rel => exact ⟨k + 1, by omega, by go_num, HOK.out (by unfold letOk; simp; try omega), by first | rfl | trivial⟩
        case measure => simp [intOf]; omega
      · skip
        have g65 : decide ((65 : Int) ≤ x) = true := by simp; omega
        have g97 : decide ((97 : Int) ≤ x) = true := by simp; omega
        have g48 : decide ((48 : Int) ≤ x) = true := by simp; omega
        have l90 : decide ((x : Int) ≤ 90) = false := by simp; omega
        have l122 : decide ((x : Int) ≤ 122) = false := by simp; omega
        have l57 : decide ((x : Int) ≤ 57) = false := by simp; omega
        have y95 : ((x : Int) == 95) = false := by simp; try omega
        go_wp2
        all_goals first | (exfalso; omega) | skip
        all_goals
          go_ret
          exact ⟨ret_bool (HBAD.out (by unfold letOk; simp; try omega)).symm, rfl⟩
    · obtain rfl : k = s.size := by omega
      have hall : nmOk s = true := by
        unfold nmOk
        rw [List.all_eq_true.2 (fun j hj => HN.out j (by simpa using hj)), decide_eq_true h32]
        rfl
      have HALL := Lib.hid hall
      clear hall
      go_wp2
      go_ret
      exact ⟨ret_bool HALL.out.symm, rfl⟩
set_option maxHeartbeats 2000000 in
theorem rpname_any (w : World) (s : ByteArray) (hs : s.size ≤ 140737488351232) :
    Calls Tryd.prog 84 #[.string s] w fun e w' => e = .returned (.bool (nmOk s)) ∧ w' = w := by
  by_cases h32 : s.size ≤ 32
  case neg =>
    have HN : Hid (nmOk s = false) := Lib.hid (by unfold nmOk; rw [decide_eq_false h32]; rfl)
    go_enter Tryd.func84, Tryd.ntmps84
    go_wp2
    go_ret
    exact ⟨ret_bool HN.out.symm, rfl⟩
  go_enter Tryd.func84, Tryd.ntmps84
  go_wp2
  go_loopw [3, 4, 5] (fun v3 v4 v5 wr => ∃ k : Nat, k ≤ s.size ∧ v3 = .int .i64 k ∧ (∀ j, j < k → letOk (s.get! j).toNat (decide (j = 0)) = true) ∧ wr = w) (fun v3 v4 v5 _ => s.size - (intOf v3).toNat)
  case atStart => exact ⟨0, by omega, rfl, by omega, rfl⟩
  case round =>
    obtain ⟨k, hk, rfl, hn, rfl⟩ := hrel
    have HN := Lib.hid hn
    clear hn
    by_cases hlt : k < s.size
    · have eg : s[k].toNat = (s.get! k).toNat := by rw [get_at s k hlt]
      have hl : s[k].toNat < 256 := (s[k]).toNat_lt
      have HEG := Lib.hid eg
      clear eg
      go_upto_region 7 with (fail)
      generalize s[k].toNat = x at *
      have HX : Hid ((s.get! k).toNat = x) := Lib.hid HEG.out.symm
      clear HEG
      have hbad : letOk x (decide (k = 0)) = false → nmOk s = false := fun h => by
        unfold nmOk
        rw [Bool.and_eq_false_iff.2 (.inr (List.all_eq_false.2 ⟨k, by simpa using hlt, by rw [HX.out, h]; decide⟩))]
      have HBAD := Lib.hid hbad
      clear hbad
      have hok : letOk x (decide (k = 0)) = true → ∀ j, j < k + 1 → letOk (s.get! j).toNat (decide (j = 0)) = true := fun h j hj => by
        by_cases e : j = k
        · rw [e, HX.out]; exact h
        · exact HN.out j (by omega)
      have HOK := Lib.hid hok
      clear hok
      rcases (show (x ≤ 47) ∨ (48 ≤ x ∧ x ≤ 57) ∨ (58 ≤ x ∧ x ≤ 64) ∨ (65 ≤ x ∧ x ≤ 90) ∨ (91 ≤ x ∧ x ≤ 94) ∨ (x = 95) ∨ (x = 96) ∨ (97 ≤ x ∧ x ≤ 122) ∨ (123 ≤ x) by omega) with hr | hr | hr | hr | hr | hr | hr | hr | hr
      · skip
        have g65 : decide ((65 : Int) ≤ x) = false := by simp; omega
        have g97 : decide ((97 : Int) ≤ x) = false := by simp; omega
        have g48 : decide ((48 : Int) ≤ x) = false := by simp; omega
        have l90 : decide ((x : Int) ≤ 90) = true := by simp; omega
        have l122 : decide ((x : Int) ≤ 122) = true := by simp; omega
        have l57 : decide ((x : Int) ≤ 57) = true := by simp; omega
        have y95 : ((x : Int) == 95) = false := by simp; try omega
        go_wp2
        all_goals first | (exfalso; omega) | skip
        all_goals
          go_ret
          exact ⟨ret_bool (HBAD.out (by unfold letOk; simp; try omega)).symm, rfl⟩
      · obtain ⟨hr1, hr2⟩ := hr
        have g65 : decide ((65 : Int) ≤ x) = false := by simp; omega
        have g97 : decide ((97 : Int) ≤ x) = false := by simp; omega
        have g48 : decide ((48 : Int) ≤ x) = true := by simp; omega
        have l90 : decide ((x : Int) ≤ 90) = true := by simp; omega
        have l122 : decide ((x : Int) ≤ 122) = true := by simp; omega
        have l57 : decide ((x : Int) ≤ 57) = true := by simp; omega
        have y95 : ((x : Int) == 95) = false := by simp; try omega
        by_cases k0 : k = 0
        · have k0b : ((k : Int) == 0) = true := by simp [k0]
          have k0c : decide ((0 : Int) < k) = false := by simp; omega
          have k0d : (k : Int) ≤ 0 := by omega
          have hb0 := HBAD.out (by unfold letOk; simp [k0]; omega)
          have HB0 := Lib.hid hb0
          clear k0 hb0
          go_wp2
          all_goals first | (exfalso; omega) | skip
          all_goals
            go_ret
            exact ⟨ret_bool HB0.out.symm, rfl⟩
        · have k0b : ((k : Int) == 0) = false := by simp [k0]
          have k0c : decide ((0 : Int) < k) = true := by simp; omega
          have k0d : (0 : Int) < k := by omega
          go_wp2
          go_roundw
          case rel => exact ⟨k + 1, by omega, by go_num, HOK.out (by unfold letOk; simp; try omega), by first | rfl | trivial⟩
          case measure => simp [intOf]; omega
      · obtain ⟨hr1, hr2⟩ := hr
        have g65 : decide ((65 : Int) ≤ x) = false := by simp; omega
        have g97 : decide ((97 : Int) ≤ x) = false := by simp; omega
        have g48 : decide ((48 : Int) ≤ x) = true := by simp; omega
        have l90 : decide ((x : Int) ≤ 90) = true := by simp; omega
        have l122 : decide ((x : Int) ≤ 122) = true := by simp; omega
        have l57 : decide ((x : Int) ≤ 57) = false := by simp; omega
        have y95 : ((x : Int) == 95) = false := by simp; try omega
        go_wp2
        all_goals first | (exfalso; omega) | skip
        all_goals
          go_ret
          exact ⟨ret_bool (HBAD.out (by unfold letOk; simp; try omega)).symm, rfl⟩
      · obtain ⟨hr1, hr2⟩ := hr
        have g65 : decide ((65 : Int) ≤ x) = true := by simp; omega
        have g97 : decide ((97 : Int) ≤ x) = false := by simp; omega
        have g48 : decide ((48 : Int) ≤ x) = true := by simp; omega
        have l90 : decide ((x : Int) ≤ 90) = true := by simp; omega
        have l122 : decide ((x : Int) ≤ 122) = true := by simp; omega
        have l57 : decide ((x : Int) ≤ 57) = false := by simp; omega
        have y95 : ((x : Int) == 95) = false := by simp; try omega
        go_wp2
        go_roundw
        case rel => exact ⟨k + 1, by omega, by go_num, HOK.out (by unfold letOk; simp; try omega), by first | rfl | trivial⟩
        case measure => simp [intOf]; omega
      · obtain ⟨hr1, hr2⟩ := hr
        have g65 : decide ((65 : Int) ≤ x) = true := by simp; omega
        have g97 : decide ((97 : Int) ≤ x) = false := by simp; omega
        have g48 : decide ((48 : Int) ≤ x) = true := by simp; omega
        have l90 : decide ((x : Int) ≤ 90) = false := by simp; omega
        have l122 : decide ((x : Int) ≤ 122) = true := by simp; omega
        have l57 : decide ((x : Int) ≤ 57) = false := by simp; omega
        have y95 : ((x : Int) == 95) = false := by simp; try omega
        go_wp2
        all_goals first | (exfalso; omega) | skip
        all_goals
          go_ret
          exact ⟨ret_bool (HBAD.out (by unfold letOk; simp; try omega)).symm, rfl⟩
      · subst hr
        go_wp2
        go_roundw
        case rel => exact ⟨k + 1, by omega, by go_num, HOK.out (by unfold letOk; simp; try omega), by first | rfl | trivial⟩
        case measure => simp [intOf]; omega
      · subst hr
        go_wp2
        all_goals first | (exfalso; omega) | skip
        all_goals
          go_ret
          exact ⟨ret_bool (HBAD.out (by unfold letOk; simp; try omega)).symm, rfl⟩
      · obtain ⟨hr1, hr2⟩ := hr
        have g65 : decide ((65 : Int) ≤ x) = true := by simp; omega
        have g97 : decide ((97 : Int) ≤ x) = true := by simp; omega
        have g48 : decide ((48 : Int) ≤ x) = true := by simp; omega
        have l90 : decide ((x : Int) ≤ 90) = false := by simp; omega
        have l122 : decide ((x : Int) ≤ 122) = true := by simp; omega
        have l57 : decide ((x : Int) ≤ 57) = false := by simp; omega
        have y95 : ((x : Int) == 95) = false := by simp; try omega
        go_wp2
        go_roundw
        case rel => exact ⟨k + 1, by omega, by go_num, HOK.out (by unfold letOk; simp; try omega), by first | rfl | trivial⟩
        case measure => simp [intOf]; omega
      · skip
        have g65 : decide ((65 : Int) ≤ x) = true := by simp; omega
        have g97 : decide ((97 : Int) ≤ x) = true := by simp; omega
        have g48 : decide ((48 : Int) ≤ x) = true := by simp; omega
        have l90 : decide ((x : Int) ≤ 90) = false := by simp; omega
        have l122 : decide ((x : Int) ≤ 122) = false := by simp; omega
        have l57 : decide ((x : Int) ≤ 57) = false := by simp; omega
        have y95 : ((x : Int) == 95) = false := by simp; try omega
        go_wp2
        all_goals first | (exfalso; omega) | skip
        all_goals
          go_ret
          exact ⟨ret_bool (HBAD.out (by unfold letOk; simp; try omega)).symm, rfl⟩
    · obtain rfl : k = s.size := by omega
      have hall : nmOk s = true := by
        unfold nmOk
        rw [List.all_eq_true.2 (fun j hj => HN.out j (by simpa using hj)), decide_eq_true h32]
        rfl
      have HALL := Lib.hid hall
      clear hall
      go_wp2
      go_ret
      exact ⟨ret_bool HALL.out.symm, rfl⟩
end Go.Proofs.YtmbboianghbjkaaDoor
