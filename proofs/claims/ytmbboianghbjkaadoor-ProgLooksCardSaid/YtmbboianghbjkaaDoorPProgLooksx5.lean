-- PRINTED BY print.sh 35421559b90ae4d0a3588c463048766b98c2df88dd9212a6774a882060cdf62d: not written by this session
import Derived.Test.YtmbboianghbjkaaDoorPProgLooksx0
import Derived.Test.YtmbboianghbjkaaDoorPProgLooksx4
namespace Go.Proofs.YtmbboianghbjkaaDoor.PProgLooks
open Go.RowKit Go.Proofs.YtmbboianghbjkaaDoorW.PrintWords Go.Proofs.YtmbboianghbjkaaDoorW.PrintLast Go.Proofs.YtmbboianghbjkaaDoorW.PrintMore
attribute [local go_sem] max2_int min2_int max_two min_two max_three min_three max_four min_four   -- for this text's walks alone
set_option linter.unusedVariables false
set_option linter.unusedSimpArgs false

/-! ### thistleref12_Holds: function 36 -/
def thistleref12_Holds.f (k : Nat) (a0 : Int) (a1 : ByteArray) (a2 : Int) : Option (Bool) := if a0 = 1 then (some (a2 == 0)) else (if a0 = 2 then (some (a2 == (a1.size : Int))) else (if a0 = 3 then (if a2 = 0 then (some true) else (if 0 ≤ (wrap64 (a2 - 1)) then (if (wrap64 (a2 - 1)) < (a1.size : Int) then (some ((bt a1 (wrap64 (a2 - 1))) == 10)) else (none)) else (none))) else (if a0 = 4 then (if a2 = (a1.size : Int) then (some true) else (if 0 ≤ a2 then (if a2 < (a1.size : Int) then (some ((bt a1 a2) == 10)) else (none)) else (none))) else (if a0 = 5 then ((thistleref12_word.f a1 a2).bind fun t150 => (some t150)) else (if a0 = 6 then ((thistleref12_word.f a1 a2).bind fun t151 => (some (!t151))) else (if a0 = 7 then (if a2 = (a1.size : Int) then (some true) else ((thistleref01_Next.f k a1 a2).bind fun bt152 => (some (decide (bt152.1 > 1114111))))) else ((thistleref01_Border.f k a1 a2).bind fun t155 => (some t155))))))))
theorem thistleref12_Holds.mono : ∀ a0 a1 a2 k, LeO (thistleref12_Holds.f k a0 a1 a2) (thistleref12_Holds.f (k + 1) a0 a1 a2) := by
  intro a0 a1 a2 k
  unfold thistleref12_Holds.f
  repeat' first
      | (with_reducible exact thistleref01_Border.mono _ _ _)
      | (with_reducible exact thistleref01_Next.mono _ _ _)
      | (with_reducible exact LeO.refl _)
      | (with_reducible exact LeO.none _)
      | (with_reducible refine LeO.ite ?_ ?_)
      | (with_reducible refine LeO.bind ?_ (fun _ => ?_))
      | exact thistleref01_Border.mono _ _ _
      | exact thistleref01_Next.mono _ _ _
      | exact LeO.none _
      | refine LeO.ite ?_ ?_
      | refine LeO.bind ?_ (fun _ => ?_)
set_option maxHeartbeats 8000000 in
set_option maxRecDepth 100000 in
theorem thistleref12_Holds.calls (k : Nat) (a0 : Int) (a1 : ByteArray) (a2 : Int) (r : Bool) (w : World) (h : thistleref12_Holds.f k a0 a1 a2 = some r) :
    Calls Tryd.prog 36 #[.int .i64 a0, .string a1, .int .i64 a2] w fun e w' => e = .returned (.bool r) ∧ Drawn0 w w' := by
  have H : (if a0 = 1 then (some (a2 == 0)) else (if a0 = 2 then (some (a2 == (a1.size : Int))) else (if a0 = 3 then (if a2 = 0 then (some true) else (if 0 ≤ (wrap64 (a2 - 1)) then (if (wrap64 (a2 - 1)) < (a1.size : Int) then (some ((bt a1 (wrap64 (a2 - 1))) == 10)) else (none)) else (none))) else (if a0 = 4 then (if a2 = (a1.size : Int) then (some true) else (if 0 ≤ a2 then (if a2 < (a1.size : Int) then (some ((bt a1 a2) == 10)) else (none)) else (none))) else (if a0 = 5 then ((thistleref12_word.f a1 a2).bind fun t150 => (some t150)) else (if a0 = 6 then ((thistleref12_word.f a1 a2).bind fun t151 => (some (!t151))) else (if a0 = 7 then (if a2 = (a1.size : Int) then (some true) else ((thistleref01_Next.f k a1 a2).bind fun bt152 => (some (decide (bt152.1 > 1114111))))) else ((thistleref01_Border.f k a1 a2).bind fun t155 => (some t155))))))))) = some r := h
  clear h
  by_cases c4 : a0 = 1
  · rw [if_pos c4] at H
    have c4b0 : (a0 == 1) = true := beq_iff_eq.mpr c4
    have c4b1 : (a0 != 1) = false := bne_eq_false_iff_eq.mpr c4
    clear c4
    obtain rfl := Option.some.inj H
    go_enter Tryd.func36, Tryd.ntmps36
    go_wp2
    go_ret
    exact ⟨by first | rfl | (simp; done) | (simp [*]; done), by repeat (first | exact Drawn0.refl _ | apply Drawn0.step)⟩
  · rw [if_neg c4] at H
    have c4b0 : (a0 == 1) = false := beq_eq_false_iff_ne.mpr c4
    have c4b1 : (a0 != 1) = true := bne_iff_ne.mpr c4
    by_cases c5 : a0 = 2
    · rw [if_pos c5] at H
      have c5b0 : (a0 == 2) = true := beq_iff_eq.mpr c5
      have c5b1 : (a0 != 2) = false := bne_eq_false_iff_eq.mpr c5
      clear c5
      obtain rfl := Option.some.inj H
      go_enter Tryd.func36, Tryd.ntmps36
      go_wp2
      go_ret
      exact ⟨by first | rfl | (simp; done) | (simp [*]; done), by repeat (first | exact Drawn0.refl _ | apply Drawn0.step)⟩
    · rw [if_neg c5] at H
      have c5b0 : (a0 == 2) = false := beq_eq_false_iff_ne.mpr c5
      have c5b1 : (a0 != 2) = true := bne_iff_ne.mpr c5
      by_cases c6 : a0 = 3
      · rw [if_pos c6] at H
        have c6b0 : (a0 == 3) = true := beq_iff_eq.mpr c6
        have c6b1 : (a0 != 3) = false := bne_eq_false_iff_eq.mpr c6
        clear c6
        by_cases c7 : a2 = 0
        · rw [if_pos c7] at H
          have c7b0 : (a2 == 0) = true := beq_iff_eq.mpr c7
          have c7b1 : (a2 != 0) = false := bne_eq_false_iff_eq.mpr c7
          clear c7
          obtain rfl := Option.some.inj H
          go_enter Tryd.func36, Tryd.ntmps36
          go_wp2
          go_ret
          exact ⟨by first | rfl | (simp; done) | (simp [*]; done), by repeat (first | exact Drawn0.refl _ | apply Drawn0.step)⟩
        · rw [if_neg c7] at H
          have c7b0 : (a2 == 0) = false := beq_eq_false_iff_ne.mpr c7
          have c7b1 : (a2 != 0) = true := bne_iff_ne.mpr c7
          obtain ⟨ji8, hji8⟩ : ∃ j_ : Int, (wrap64 (a2 - 1)) = j_ := ⟨_, rfl⟩
          replace H : (if 0 ≤ (ji8) then (if (ji8) < (a1.size : Int) then (some ((bt a1 (ji8)) == 10)) else (none)) else (none)) = some r := by first | (rw [hji8] at H; exact H) | (simp only [hji8] at H ⊢; exact H)
          have hji8w : (IntKind.i64.wrap (a2 - 1)) = ji8 := (i64_w _).trans hji8
          by_cases c9 : 0 ≤ (ji8)
          · rw [if_pos c9] at H
            have c9b0 : decide (0 ≤ (ji8)) = true := decide_eq_true c9
            clear c9
            by_cases c10 : (ji8) < (a1.size : Int)
            · rw [if_pos c10] at H
              have c10b0 : decide ((ji8) < (a1.size : Int)) = true := decide_eq_true c10
              clear c10
              obtain rfl := Option.some.inj H
              have p11 : 0 ≤ ((ji8) : Int) := of_decide_eq_true (by first | (with_reducible assumption) | assumption)
              have q11 : (ji8) < (a1.size : Int) := of_decide_eq_true (by first | (with_reducible assumption) | assumption)
              have hx11 := bt_at a1 (ji8)
              replace p11 := eq_true p11
              replace q11 := eq_true q11
              go_enter Tryd.func36, Tryd.ntmps36
              go_wp2
              go_ret
              exact ⟨by first | rfl | (simp; done) | (simp only [← hji8] <;> (first | rfl | simp)) | (simp [*]; done), by repeat (first | exact Drawn0.refl _ | apply Drawn0.step)⟩
            · rw [if_neg c10] at H
              exact absurd H (by simp)
          · rw [if_neg c9] at H
            exact absurd H (by simp)
      · rw [if_neg c6] at H
        have c6b0 : (a0 == 3) = false := beq_eq_false_iff_ne.mpr c6
        have c6b1 : (a0 != 3) = true := bne_iff_ne.mpr c6
        by_cases c12 : a0 = 4
        · rw [if_pos c12] at H
          have c12b0 : (a0 == 4) = true := beq_iff_eq.mpr c12
          have c12b1 : (a0 != 4) = false := bne_eq_false_iff_eq.mpr c12
          clear c12
          by_cases c13 : a2 = (a1.size : Int)
          · rw [if_pos c13] at H
            have c13b0 : (a2 == (a1.size : Int)) = true := beq_iff_eq.mpr c13
            have c13b1 : (a2 != (a1.size : Int)) = false := bne_eq_false_iff_eq.mpr c13
            clear c13
            obtain rfl := Option.some.inj H
            go_enter Tryd.func36, Tryd.ntmps36
            go_wp2
            go_ret
            exact ⟨by first | rfl | (simp; done) | (simp [*]; done), by repeat (first | exact Drawn0.refl _ | apply Drawn0.step)⟩
          · rw [if_neg c13] at H
            have c13b0 : (a2 == (a1.size : Int)) = false := beq_eq_false_iff_ne.mpr c13
            have c13b1 : (a2 != (a1.size : Int)) = true := bne_iff_ne.mpr c13
            by_cases c14 : 0 ≤ a2
            · rw [if_pos c14] at H
              have c14b0 : decide (0 ≤ a2) = true := decide_eq_true c14
              clear c14
              by_cases c15 : a2 < (a1.size : Int)
              · rw [if_pos c15] at H
                have c15b0 : decide (a2 < (a1.size : Int)) = true := decide_eq_true c15
                clear c15
                obtain rfl := Option.some.inj H
                have p16 : 0 ≤ (a2 : Int) := of_decide_eq_true (by first | (with_reducible assumption) | assumption)
                have q16 : a2 < (a1.size : Int) := of_decide_eq_true (by first | (with_reducible assumption) | assumption)
                have hx16 := bt_at a1 a2
                replace p16 := eq_true p16
                replace q16 := eq_true q16
                go_enter Tryd.func36, Tryd.ntmps36
                go_wp2
                go_ret
                exact ⟨by first | rfl | (simp; done) | (simp [*]; done), by repeat (first | exact Drawn0.refl _ | apply Drawn0.step)⟩
              · rw [if_neg c15] at H
                exact absurd H (by simp)
            · rw [if_neg c14] at H
              exact absurd H (by simp)
        · rw [if_neg c12] at H
          have c12b0 : (a0 == 4) = false := beq_eq_false_iff_ne.mpr c12
          have c12b1 : (a0 != 4) = true := bne_iff_ne.mpr c12
          by_cases c17 : a0 = 5
          · rw [if_pos c17] at H
            have c17b0 : (a0 == 5) = true := beq_iff_eq.mpr c17
            have c17b1 : (a0 != 5) = false := bne_eq_false_iff_eq.mpr c17
            clear c17
            replace H := Option.bind_eq_some_iff.mp H
            obtain ⟨t150, A180, H⟩ := H
            replace H : (some t150) = some r := H
            have A18 := Aside0.mk A180
            clear A180
            obtain rfl := Option.some.inj H
            go_enter Tryd.func36, Tryd.ntmps36
            go_wp2_with (first | ((with_reducible refine gate_callee (f := 71) rfl ?_); refine goesL_ (some 48) rfl rfl Tryd.func71 (by kernel_rfl) rfl #[.string a1, .int .i64 a2] rfl (by (try simp only [List.map_toArray, List.map_cons, List.map_nil]); first | done | rfl | (simp only [List.length_drop, List.length_take]; rfl)) ?_; (with_reducible refine (thistleref12_word.calls a1 a2 t150 _ A18.out).mono ?_); rintro e w' ⟨rfl, ⟨nd, rfl⟩⟩; refine ⟨_, rfl, ?_⟩))
            go_ret
            exact ⟨by first | rfl | (simp; done) | (simp [*]; done), by repeat (first | exact Drawn0.refl _ | apply Drawn0.step)⟩
          · rw [if_neg c17] at H
            have c17b0 : (a0 == 5) = false := beq_eq_false_iff_ne.mpr c17
            have c17b1 : (a0 != 5) = true := bne_iff_ne.mpr c17
            by_cases c19 : a0 = 6
            · rw [if_pos c19] at H
              have c19b0 : (a0 == 6) = true := beq_iff_eq.mpr c19
              have c19b1 : (a0 != 6) = false := bne_eq_false_iff_eq.mpr c19
              clear c19
              replace H := Option.bind_eq_some_iff.mp H
              obtain ⟨t151, A200, H⟩ := H
              replace H : (some (!t151)) = some r := H
              have A20 := Aside0.mk A200
              clear A200
              obtain rfl := Option.some.inj H
              go_enter Tryd.func36, Tryd.ntmps36
              go_wp2_with (first | ((with_reducible refine gate_callee (f := 71) rfl ?_); refine goesL_ (some 53) rfl rfl Tryd.func71 (by kernel_rfl) rfl #[.string a1, .int .i64 a2] rfl (by (try simp only [List.map_toArray, List.map_cons, List.map_nil]); first | done | rfl | (simp only [List.length_drop, List.length_take]; rfl)) ?_; (with_reducible refine (thistleref12_word.calls a1 a2 t151 _ A20.out).mono ?_); rintro e w' ⟨rfl, ⟨nd, rfl⟩⟩; refine ⟨_, rfl, ?_⟩))
              go_ret
              exact ⟨by first | rfl | (simp; done) | (simp [*]; done), by repeat (first | exact Drawn0.refl _ | apply Drawn0.step)⟩
            · rw [if_neg c19] at H
              have c19b0 : (a0 == 6) = false := beq_eq_false_iff_ne.mpr c19
              have c19b1 : (a0 != 6) = true := bne_iff_ne.mpr c19
              by_cases c21 : a0 = 7
              · rw [if_pos c21] at H
                have c21b0 : (a0 == 7) = true := beq_iff_eq.mpr c21
                have c21b1 : (a0 != 7) = false := bne_eq_false_iff_eq.mpr c21
                clear c21
                by_cases c22 : a2 = (a1.size : Int)
                · rw [if_pos c22] at H
                  have c22b0 : (a2 == (a1.size : Int)) = true := beq_iff_eq.mpr c22
                  have c22b1 : (a2 != (a1.size : Int)) = false := bne_eq_false_iff_eq.mpr c22
                  clear c22
                  obtain rfl := Option.some.inj H
                  go_enter Tryd.func36, Tryd.ntmps36
                  go_wp2
                  go_ret
                  exact ⟨by first | rfl | (simp; done) | (simp [*]; done), by repeat (first | exact Drawn0.refl _ | apply Drawn0.step)⟩
                · rw [if_neg c22] at H
                  have c22b0 : (a2 == (a1.size : Int)) = false := beq_eq_false_iff_ne.mpr c22
                  have c22b1 : (a2 != (a1.size : Int)) = true := bne_iff_ne.mpr c22
                  replace H := Option.bind_eq_some_iff.mp H
                  obtain ⟨⟨t152, t153, t154⟩, A230, H⟩ := H
                  replace H : (some (decide (t152 > 1114111))) = some r := H
                  have A23 := Aside0.mk A230
                  clear A230
                  obtain rfl := Option.some.inj H
                  go_enter Tryd.func36, Tryd.ntmps36
                  go_wp2_with (first | ((with_reducible refine gate_callee (f := 72) rfl ?_); refine goesL_ (some 64) rfl rfl Tryd.func72 (by kernel_rfl) rfl #[.string a1, .int .i64 a2] rfl (by (try simp only [List.map_toArray, List.map_cons, List.map_nil]); first | done | rfl | (simp only [List.length_drop, List.length_take]; rfl)) ?_; (with_reducible refine (thistleref01_Next.calls k a1 a2 t152 t153 t154 _ A23.out).mono ?_); rintro e w' ⟨rfl, ⟨nd, rfl⟩⟩; refine ⟨_, rfl, ?_⟩))
                  go_ret
                  exact ⟨by first | rfl | (simp; done) | (simp [*]; done), by repeat (first | exact Drawn0.refl _ | apply Drawn0.step)⟩
              · rw [if_neg c21] at H
                have c21b0 : (a0 == 7) = false := beq_eq_false_iff_ne.mpr c21
                have c21b1 : (a0 != 7) = true := bne_iff_ne.mpr c21
                replace H := Option.bind_eq_some_iff.mp H
                obtain ⟨t155, A240, H⟩ := H
                replace H : (some t155) = some r := H
                have A24 := Aside0.mk A240
                clear A240
                obtain rfl := Option.some.inj H
                go_enter Tryd.func36, Tryd.ntmps36
                go_wp2_with (first | ((with_reducible refine gate_callee (f := 70) rfl ?_); refine goesL_ (some 72) rfl rfl Tryd.func70 (by kernel_rfl) rfl #[.string a1, .int .i64 a2] rfl (by (try simp only [List.map_toArray, List.map_cons, List.map_nil]); first | done | rfl | (simp only [List.length_drop, List.length_take]; rfl)) ?_; (with_reducible refine (thistleref01_Border.calls k a1 a2 t155 _ A24.out).mono ?_); rintro e w' ⟨rfl, ⟨nd, rfl⟩⟩; refine ⟨_, rfl, ?_⟩))
                go_ret
                exact ⟨by first | rfl | (simp; done) | (simp [*]; done), by repeat (first | exact Drawn0.refl _ | apply Drawn0.step)⟩

/-! ### thistleref12_Look: function 11 -/
def thistleref12_Look.j0 : Nat → Int → ByteArray → Int → Bool → Bool → Option (Bool × Int)
  | 0, _, _, _, _, _ => none
  | k + 1, x0, x1, x2, x3, x23 => if x23 = true then (some (false, 2)) else ((thistleref12_Border.f k x1 x2 x3).bind fun t156 => (if t156 = true then ((thistleref12_Holds.f k x0 x1 x2).bind fun t157 => (some (t157, 0))) else (some (false, 3))))
def thistleref12_Look.f (k : Nat) (a0 : Int) (a1 : ByteArray) (a2 : Int) (a3 : Bool) : Option (Bool × Int) := if a0 < 1 then (thistleref12_Look.j0 k a0 a1 a2 a3 true) else (if a0 > 8 then (thistleref12_Look.j0 k a0 a1 a2 a3 true) else (if a0 > 6 then (thistleref12_Look.j0 k a0 a1 a2 a3 (!a3)) else (thistleref12_Look.j0 k a0 a1 a2 a3 false)))
theorem thistleref12_Look.mono_l : ∀ k, (∀ y0 y1 y2 y3 y4, LeO (thistleref12_Look.j0 k y0 y1 y2 y3 y4) (thistleref12_Look.j0 (k + 1) y0 y1 y2 y3 y4))
  | 0 => fun _ _ _ _ _ r h => by simp [thistleref12_Look.j0] at h
  | k + 1 => by
    have ih0 := thistleref12_Look.mono_l k
    · intro y0 y1 y2 y3 y4
      unfold thistleref12_Look.j0
      repeat' first
      | (with_reducible exact ih0 _ _ _ _ _)
      | (with_reducible exact thistleref12_Border.mono _ _ _ _)
      | (with_reducible exact thistleref12_Holds.mono _ _ _ _)
      | (with_reducible exact LeO.refl _)
      | (with_reducible exact LeO.none _)
      | (with_reducible refine LeO.ite ?_ ?_)
      | (with_reducible refine LeO.bind ?_ (fun _ => ?_))
      | exact ih0 _ _ _ _ _
      | exact thistleref12_Border.mono _ _ _ _
      | exact thistleref12_Holds.mono _ _ _ _
      | exact LeO.none _
      | refine LeO.ite ?_ ?_
      | refine LeO.bind ?_ (fun _ => ?_)
theorem thistleref12_Look.mono : ∀ a0 a1 a2 a3 k, LeO (thistleref12_Look.f k a0 a1 a2 a3) (thistleref12_Look.f (k + 1) a0 a1 a2 a3) := by
  intro a0 a1 a2 a3 k
  have ih0 := thistleref12_Look.mono_l k
  unfold thistleref12_Look.f
  repeat' first
      | (with_reducible exact ih0 _ _ _ _ _)
      | (with_reducible exact thistleref12_Border.mono _ _ _ _)
      | (with_reducible exact thistleref12_Holds.mono _ _ _ _)
      | (with_reducible exact LeO.refl _)
      | (with_reducible exact LeO.none _)
      | (with_reducible refine LeO.ite ?_ ?_)
      | (with_reducible refine LeO.bind ?_ (fun _ => ?_))
      | exact ih0 _ _ _ _ _
      | exact thistleref12_Border.mono _ _ _ _
      | exact thistleref12_Holds.mono _ _ _ _
      | exact LeO.none _
      | refine LeO.ite ?_ ?_
      | refine LeO.bind ?_ (fun _ => ?_)
set_option maxHeartbeats 8000000 in
set_option maxRecDepth 100000 in
theorem thistleref12_Look.calls (k : Nat) (a0 : Int) (a1 : ByteArray) (a2 : Int) (a3 : Bool) (r1 : Bool) (r2 : Int) (w : World) (h : thistleref12_Look.f k a0 a1 a2 a3 = some (r1, r2)) :
    Calls Tryd.prog 11 #[.int .i64 a0, .string a1, .int .i64 a2, .bool a3] w fun e w' => e = .returned (.tuple #[.bool r1, .int .i64 r2]) ∧ Drawn0 w w' := by
  have H : (if a0 < 1 then (thistleref12_Look.j0 k a0 a1 a2 a3 true) else (if a0 > 8 then (thistleref12_Look.j0 k a0 a1 a2 a3 true) else (if a0 > 6 then (thistleref12_Look.j0 k a0 a1 a2 a3 (!a3)) else (thistleref12_Look.j0 k a0 a1 a2 a3 false)))) = some (r1, r2) := h
  clear h
  have HC5 := Aside0.mk H
  clear H
  go_enter Tryd.func11, Tryd.ntmps11
  go_upto_region 1 with (fail)
  go_cut [23] (fun v23 wc => ∃ (kq : Nat) (x23_4 : Bool), v23 = .bool x23_4 ∧ Aside0 (thistleref12_Look.j0 kq a0 a1 a2 a3 x23_4 = some (r1, r2)) ∧ Aside0 (kq ≤ k) ∧ Drawn0 w wc)
  case first =>
    have H := HC5.out
    clear HC5
    by_cases c6 : a0 < 1
    · rw [if_pos c6] at H
      have c6b0 : decide (a0 < 1) = true := decide_eq_true c6
      clear c6
      (first | rw [c6b0] | (simp only [i64_w, i32_w]; rw [c6b0]) | skip)
      have H' := Aside0.mk H
      clear H
      go_wp2
      go_meet
      case rel => exact ⟨_, (true), (by first | rfl | (simp; done) | (simp [*]; done)), H', ⟨by first | omega | exact Nat.le_refl _⟩, by repeat (first | exact Drawn0.refl _ | apply Drawn0.step)⟩
    · rw [if_neg c6] at H
      have c6b0 : decide (a0 < 1) = false := decide_eq_false c6
      clear c6
      (first | rw [c6b0] | (simp only [i64_w, i32_w]; rw [c6b0]) | skip)
      by_cases c7 : a0 > 8
      · rw [if_pos c7] at H
        have c7b0 : decide (8 < a0) = true := decide_eq_true c7
        clear c7
        have H' := Aside0.mk H
        clear H
        go_wp2
        go_meet
        case rel => exact ⟨_, (true), (by first | rfl | (simp; done) | (simp [*]; done)), H', ⟨by first | omega | exact Nat.le_refl _⟩, by repeat (first | exact Drawn0.refl _ | apply Drawn0.step)⟩
      · rw [if_neg c7] at H
        have c7b0 : decide (8 < a0) = false := decide_eq_false c7
        clear c7
        by_cases c8 : a0 > 6
        · rw [if_pos c8] at H
          have c8b0 : decide (6 < a0) = true := decide_eq_true c8
          clear c8
          have H' := Aside0.mk H
          clear H
          go_wp2
          go_meet
          case rel => exact ⟨_, (!a3), (by first | rfl | (simp; done) | (simp [*]; done)), H', ⟨by first | omega | exact Nat.le_refl _⟩, by repeat (first | exact Drawn0.refl _ | apply Drawn0.step)⟩
        · rw [if_neg c8] at H
          have c8b0 : decide (6 < a0) = false := decide_eq_false c8
          clear c8
          have H' := Aside0.mk H
          clear H
          go_wp2
          go_meet
          case rel => exact ⟨_, (false), (by first | rfl | (simp; done) | (simp [*]; done)), H', ⟨by first | omega | exact Nat.le_refl _⟩, by repeat (first | exact Drawn0.refl _ | apply Drawn0.step)⟩
  case rest =>
    clear HC5
    try clear c1
    try clear p2
    try clear c6
    try clear c6b0
    try clear c7
    try clear c7b0
    try clear c8
    try clear c8b0
    obtain ⟨kq, x23_4, rfl, HA, HJ4, ⟨mc4, rfl⟩⟩ := hcut
    cases kq with
    | zero => exact absurd HA.out (by simp [thistleref12_Look.j0])
    | succ kj4 =>
      have H := HA.out
      clear HA
      simp only [thistleref12_Look.j0] at H
      by_cases c9 : x23_4 = true
      · subst c9
        have H1 : (some (false, 2)) = some (r1, r2) := by rw [if_pos rfl] at H; exact H
        clear H
        have H := H1
        clear H1
        simp only [Option.some.injEq, Prod.mk.injEq] at H
        obtain ⟨rfl, rfl⟩ := H
        go_wp2
        go_ret2
        exact ⟨by first | rfl | (simp; done) | (simp [*]; done), by repeat (first | exact Drawn0.refl _ | apply Drawn0.step)⟩
      · replace c9 := Bool.eq_false_iff.mpr c9
        subst c9
        have H1 : ((thistleref12_Border.f kj4 a1 a2 a3).bind fun t156 => (if t156 = true then ((thistleref12_Holds.f kj4 a0 a1 a2).bind fun t157 => (some (t157, 0))) else (some (false, 3)))) = some (r1, r2) := by rw [if_neg (show ¬ (false = true) by decide)] at H; exact H
        clear H
        have H := H1
        clear H1
        replace H := Option.bind_eq_some_iff.mp H
        obtain ⟨t156, A100, H⟩ := H
        replace H : (if t156 = true then ((thistleref12_Holds.f kj4 a0 a1 a2).bind fun t157 => (some (t157, 0))) else (some (false, 3))) = some (r1, r2) := H
        have A10 := Aside0.mk A100
        clear A100
        by_cases c11 : t156 = true
        · subst c11
          have H1 : ((thistleref12_Holds.f kj4 a0 a1 a2).bind fun t157 => (some (t157, 0))) = some (r1, r2) := by rw [if_pos rfl] at H; exact H
          clear H
          have H := H1
          clear H1
          replace H := Option.bind_eq_some_iff.mp H
          obtain ⟨t157, A120, H⟩ := H
          replace H : (some (t157, 0)) = some (r1, r2) := H
          have A12 := Aside0.mk A120
          clear A120
          simp only [Option.some.injEq, Prod.mk.injEq] at H
          obtain ⟨rfl, rfl⟩ := H
          go_wp2_with (first | ((with_reducible refine gate_callee (f := 35) rfl ?_); refine goesL_ (some 27) rfl rfl Tryd.func35 (by kernel_rfl) rfl #[.string a1, .int .i64 a2, .bool a3] rfl (by (try simp only [List.map_toArray, List.map_cons, List.map_nil]); first | done | rfl | (simp only [List.length_drop, List.length_take]; rfl)) ?_; (with_reducible refine (thistleref12_Border.calls kj4 a1 a2 a3 true _ A10.out).mono ?_); rintro e w' ⟨rfl, ⟨nd, rfl⟩⟩; refine ⟨_, rfl, ?_⟩) | ((with_reducible refine gate_callee (f := 36) rfl ?_); refine goesL_ (some 32) rfl rfl Tryd.func36 (by kernel_rfl) rfl #[.int .i64 a0, .string a1, .int .i64 a2] rfl (by (try simp only [List.map_toArray, List.map_cons, List.map_nil]); first | done | rfl | (simp only [List.length_drop, List.length_take]; rfl)) ?_; (with_reducible refine (thistleref12_Holds.calls kj4 a0 a1 a2 t157 _ A12.out).mono ?_); rintro e w' ⟨rfl, ⟨nd, rfl⟩⟩; refine ⟨_, rfl, ?_⟩))
          go_ret2
          exact ⟨by first | rfl | (simp; done) | (simp [*]; done), by repeat (first | exact Drawn0.refl _ | apply Drawn0.step)⟩
        · replace c11 := Bool.eq_false_iff.mpr c11
          subst c11
          have H1 : (some (false, 3)) = some (r1, r2) := by rw [if_neg (show ¬ (false = true) by decide)] at H; exact H
          clear H
          have H := H1
          clear H1
          simp only [Option.some.injEq, Prod.mk.injEq] at H
          obtain ⟨rfl, rfl⟩ := H
          go_wp2_with (first | ((with_reducible refine gate_callee (f := 35) rfl ?_); refine goesL_ (some 27) rfl rfl Tryd.func35 (by kernel_rfl) rfl #[.string a1, .int .i64 a2, .bool a3] rfl (by (try simp only [List.map_toArray, List.map_cons, List.map_nil]); first | done | rfl | (simp only [List.length_drop, List.length_take]; rfl)) ?_; (with_reducible refine (thistleref12_Border.calls kj4 a1 a2 a3 false _ A10.out).mono ?_); rintro e w' ⟨rfl, ⟨nd, rfl⟩⟩; refine ⟨_, rfl, ?_⟩))
          go_ret2
          exact ⟨by first | rfl | (simp; done) | (simp [*]; done), by repeat (first | exact Drawn0.refl _ | apply Drawn0.step)⟩

-- NOT PRINTED: function 3 (thistlelaw12_ProgLooks)

end Go.Proofs.YtmbboianghbjkaaDoor.PProgLooks
