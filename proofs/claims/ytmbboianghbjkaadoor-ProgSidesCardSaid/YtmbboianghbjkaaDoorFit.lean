import Derived.Test.YtmbboianghbjkaaDoorProg
import Derived.Test.YtmbboianghbjkaaDoorData
namespace Go.Proofs.YtmbboianghbjkaaDoor
open Go.RowKit
set_option linter.unusedVariables false
set_option linter.unusedSimpArgs false
attribute [local go_sem] bl_refl bl_alloc bl_a2 bl_a3 bl_a4 bl_a5 bl_set bl_drew bl_drewN le_add_r lt_add_r addr_add

theorem get_at (x : ByteArray) (i : Nat) (h : i < x.size) : x.get! i = x[i] := by
  show x.data[i]! = x.data[i]
  rw [getElem!_pos]
/-- May a byte stand in a name. -/
def letOk (c : Int) (first : Bool) : Bool := decide (c = 95) || (decide (97 ≤ c) && decide (c ≤ 122)) || (decide (65 ≤ c) && decide (c ≤ 90)) || (!first && decide (48 ≤ c) && decide (c ≤ 57))
set_option maxHeartbeats 1000000 in
theorem letter_any (c : Int) (first : Bool) (w : World) :
    Calls Tryd.prog 125 #[.int .u8 c, .bool first] w fun e w' => e = .returned (.bool (letOk c first)) ∧ w' = w := by
  cases first
  · go_enter Tryd.func125, Tryd.ntmps125
    go_wp2
    all_goals
      go_ret
      refine ⟨ret_bool ?_, rfl⟩
      unfold letOk
      rw [Bool.eq_iff_iff]
      try simp only [beq_iff_eq, beq_eq_false_iff_ne, ne_eq] at *
      simp
      try omega
  · go_enter Tryd.func125, Tryd.ntmps125
    go_wp2
    all_goals
      go_ret
      refine ⟨ret_bool ?_, rfl⟩
      unfold letOk
      rw [Bool.eq_iff_iff]
      try simp only [beq_iff_eq, beq_eq_false_iff_ne, ne_eq] at *
      simp
      try omega

/-- A slice of texts as it reads in one world. -/
def RdS (w : World) (v : Value) (xs : List ByteArray) : Prop :=
  ∃ A c, v = .slice A xs.length c ∧ xs.length ≤ 9223372036854775807 ∧ (0 < xs.length → ∃ b o, A = some ⟨b, o, none⟩ ∧ ∀ k (h : k < xs.length), w.cell? ⟨b, o + k, none⟩ = some (.string xs[k]))

def contS (xs : List ByteArray) (s : ByteArray) : Bool := xs.any (fun x => s.toList == x.toList)

set_option maxHeartbeats 1000000 in
theorem indexS_any (w : World) (v : Value) (xs : List ByteArray) (s : ByteArray) (h1 : RdS w v xs) :
    Calls Tryd.prog 123 #[v, .string s] w fun e w' => (∃ r : Int, e = .returned (.int .i64 r) ∧ decide (0 ≤ r) = contS xs s) ∧ ∃ n, w' = w.drewN n := by
  obtain ⟨A, c, rfl, l1, r1⟩ := h1
  have R1 := Lib.hid r1
  clear r1
  go_enter Tryd.func123, Tryd.ntmps123
  go_wp2
  go_loopw [5, 8] (fun _ v8 wr => ∃ k : Nat, k ≤ xs.length ∧ v8 = .int .i64 k ∧ (∀ j (h : j < xs.length), j < k → (s.toList == xs[j].toList) = false) ∧ ∃ n, wr = w.drewN n) (fun _ v8 _ => xs.length - (intOf v8).toNat)
  case atStart => exact ⟨0, by omega, rfl, by omega, 0, rfl⟩
  case round =>
    obtain ⟨k, hk, rfl, hn, nd, rfl⟩ := hrel
    have HN := Lib.hid hn
    clear hn
    by_cases hlt : k < xs.length
    · obtain ⟨b, o, rfl, hR⟩ := R1.out (by omega)
      have c1 := hR k hlt
      clear hR
      generalize hx : xs[k] = x at *
      have HX := Lib.hid hx
      clear hx
      by_cases hxy : (s.toList == x.toList) = true
      · go_wp2
        go_ret
        refine ⟨⟨_, rfl, ?_⟩, _, rfl⟩
        have e1 : contS xs s = true := by
          unfold contS
          rw [List.any_eq_true]
          exact ⟨x, HX.out ▸ List.getElem_mem hlt, hxy⟩
        rw [e1]
        simp
      · have hxy' : (s.toList == x.toList) = false := by simpa using hxy
        clear hxy
        go_wp2
        go_roundw
        case rel => exact ⟨k + 1, by omega, by go_num, fun j h hj => by
            by_cases e : j = k
            · subst e
              rw [HX.out]
              exact hxy'
            · exact HN.out j h (by omega), _, rfl⟩
        case measure => simp [intOf]; omega
    · obtain rfl : k = xs.length := by omega
      go_wp2
      go_ret
      refine ⟨⟨_, rfl, ?_⟩, _, rfl⟩
      have e1 : contS xs s = false := by
        unfold contS
        rw [List.any_eq_false]
        intro y hy
        obtain ⟨j, hj, rfl⟩ := List.getElem_of_mem hy
        rw [HN.out j hj hj]
        decide
      rw [e1]
      simp
theorem containsS_any (w : World) (v : Value) (xs : List ByteArray) (s : ByteArray) (h1 : RdS w v xs) :
    Calls Tryd.prog 89 #[v, .string s] w fun e w' => e = .returned (.bool (contS xs s)) ∧ ∃ n, w' = w.drewN n := by
  obtain ⟨A, c, rfl, l1, r1⟩ := h1
  have h1 : RdS w (.slice A xs.length c) xs := ⟨A, c, rfl, l1, r1⟩
  clear r1
  go_enter Tryd.func89, Tryd.ntmps89
  go_wp2_with fail
  refine (indexS_any _ _ xs s h1).mono ?_
  rintro e w1 ⟨⟨r, rfl, hr⟩, n, rfl⟩
  by_cases h0 : 0 ≤ r
  · have hc : contS xs s = true := by rw [← hr]; simp [h0]
    go_wp2
    go_ret
    exact ⟨ret_bool (by rw [hc]), _, rfl⟩
  · have hc : contS xs s = false := by rw [← hr]; simp [h0]
    go_wp2
    go_ret
    exact ⟨ret_bool (by rw [hc]), _, rfl⟩

/-- fitting at one name. -/
def nameOk (pre : List ByteArray) (s : ByteArray) : Bool :=
  decide (s.size ≤ 32) && !(!(decide (s.size = 0)) && contS pre s) && (List.range s.size).all (fun j => letOk (s.get! j).toNat (decide (j = 0)))
def fitOk (names : List ByteArray) : Bool := decide (names.length ≤ 40) && (List.range names.length).all fun i => nameOk (names.take i) (names.getD i default)

set_option maxHeartbeats 1000000 in
theorem fitting_any (B : Nat) (w0 w : World) (v : Value) (xs : List ByteArray) (hb : Below B w0 w) (hB : B ≤ w.heap.size) (hs : Sl (StrAt B w0) 1 v xs) :
    Calls Tryd.prog 94 #[v] w fun e w' => e = .returned (.bool (fitOk xs)) ∧ Below w.heap.size w w' := by
  obtain ⟨A, c, rfl, h1, h2, h3⟩ := hs
  have R1 := Lib.hid h3
  clear h3
  by_cases hl : xs.length ≤ 40
  · go_enter Tryd.func94, Tryd.ntmps94
    go_wp2
    go_loopw [4, 5, 11] (fun _ _ v11 wr => ∃ k : Nat, k ≤ xs.length ∧ v11 = .int .i64 k ∧ (∀ j, j < k → nameOk (xs.take j) (xs.getD j default) = true) ∧ Below w.heap.size w wr) (fun _ _ v11 _ => xs.length - (intOf v11).toNat)
    case atStart => exact ⟨0, by omega, rfl, by omega, Below.refl _ _⟩
    case round =>
      obtain ⟨k, hk, rfl, hn, hbr⟩ := hrel
      have HN := Lib.hid hn
      clear hn
      by_cases hlt : k < xs.length
      · obtain ⟨b, o, rfl, hR⟩ := R1.out (by omega)
        have c1 := (hR k hlt).at_ wr (hb.trans (hbr.mono hB))
        rw [Nat.mul_one] at c1
        clear hR
        have HD := Lib.hid (getD_at xs k default hlt)
        generalize hx : xs[k] = x at *
        have HX := Lib.hid hx
        clear hx
        have hnk : nameOk (xs.take k) x = false → fitOk xs = false := by
          intro h
          unfold fitOk
          rw [Bool.and_eq_false_iff, List.all_eq_false]
          exact .inr ⟨k, by simpa using hlt, by rw [← HD.out, h]; decide⟩
        have HK := Lib.hid hnk
        clear hnk
        by_cases hz : x.size ≤ 32
        · by_cases he : x.toList = []
          · have hz0 : x.size = 0 := by
              rw [ByteArray.toList_eq] at he
              have := congrArg List.length he
              simpa using this
            have hie : x.toList.isEmpty = true := by rw [he]; rfl
            have hnm : nameOk (xs.take k) x = true := by unfold nameOk; simp [hz0]
            have HNM := Lib.hid hnm
            clear hnm he
            go_wp2
            go_loopw [5, 32] (fun _ v32 wr1 => v32 = .int .i64 0 ∧ wr1 = wr) (fun _ _ _ => 0)
            case atStart => exact ⟨rfl, rfl⟩
            case round =>
              obtain ⟨rfl, rfl⟩ := hrel
              go_wp2
              go_roundw
              case rel => exact ⟨k + 1, by omega, by go_num, fun j hj => by
                by_cases e : j = k
                · rw [e, ← HD.out]; exact HNM.out
                · exact HN.out j (by omega), hbr⟩
              case measure => simp [intOf]; omega
          · go_wp2_with fail
            refine (containsS_any _ _ (xs.take k) x ⟨some ⟨b, o, none⟩, c, by rw [List.length_take, Nat.min_eq_left hk], by rw [List.length_take, Nat.min_eq_left hk]; omega, fun hp => ⟨b, o, rfl, fun j hj => ?_⟩⟩).mono ?_
            · obtain ⟨b', o', e, hR⟩ := R1.out (by omega)
              cases e
              have hjl : j < xs.length := by rw [List.length_take] at hj; omega
              have := (hR j hjl).at_ wr (hb.trans (hbr.mono hB))
              rw [Nat.mul_one] at this
              simpa using this
            · rintro e w1 ⟨rfl, nd, rfl⟩
              have hie : x.toList.isEmpty = false := by simpa using he
              have hz0 : x.size ≠ 0 := by
                intro h
                rw [ByteArray.toList_eq] at he
                exact he (List.eq_nil_of_length_eq_zero (by simpa using h))
              have HZ := Lib.hid hz0
              clear he hz0
              by_cases hc : contS (xs.take k) x = true
              · rw [hc]
                go_wp2
                go_ret
                exact ⟨ret_bool (HK.out (by unfold nameOk; simp [HZ.out, hc])).symm, below_drewN hbr _⟩
              · rw [show contS (xs.take k) x = false by simpa using hc]
                have HC := Lib.hid hc
                clear hc
                go_wp2
                go_loopw [5, 32] (fun _ v32 wr1 => ∃ i : Nat, i ≤ x.size ∧ v32 = .int .i64 i ∧ (∀ j, j < i → letOk (x.get! j).toNat (decide (j = 0)) = true) ∧ Below w.heap.size w wr1) (fun _ v32 _ => x.size - (intOf v32).toNat)
                case atStart => exact ⟨0, by omega, rfl, by omega, below_drewN hbr _⟩
                case round =>
                  obtain ⟨i, hi, rfl, hln, hbr1⟩ := hrel
                  have HLN := Lib.hid hln
                  clear hln
                  by_cases hix : i < x.size
                  · go_wp2_with fail
                    refine (letter_any _ _ _).mono ?_
                    rintro e w1 ⟨rfl, rfl⟩
                    have e1 : letOk (x[i].toNat) ((i : Int) == 0) = letOk (x.get! i).toNat (decide (i = 0)) := by
                      rw [show x.get! i = x[i] from get_at x i hix]
                      congr 1
                      rw [Bool.eq_iff_iff]
                      simp
                    rw [e1]
                    by_cases hlo : letOk (x.get! i).toNat (decide (i = 0)) = true
                    · rw [hlo]
                      have HLO := Lib.hid hlo
                      clear hlo e1
                      go_wp2
                      go_roundw
                      case rel => exact ⟨i + 1, by omega, by go_num, fun j hj => by
                        by_cases e : j = i
                        · rw [e]; exact HLO.out
                        · exact HLN.out j (by omega), hbr1⟩
                      case measure => simp [intOf]; omega
                    · rw [show letOk (x.get! i).toNat (decide (i = 0)) = false by simpa using hlo]
                      have HLO := Lib.hid hlo
                      clear hlo e1
                      go_wp2
                      go_ret
                      refine ⟨ret_bool (HK.out ?_).symm, hbr1⟩
                      unfold nameOk
                      rw [Bool.and_eq_false_iff, List.all_eq_false]
                      exact .inr ⟨i, by simpa using hix, HLO.out⟩
                  · obtain rfl : i = x.size := by omega
                    go_wp2
                    go_roundw
                    case rel => exact ⟨k + 1, by omega, by go_num, fun j hj => by
                      by_cases e : j = k
                      · rw [e, ← HD.out]
                        unfold nameOk
                        rw [show contS (xs.take k) x = false by simpa using HC.out]
                        simp [hz]
                        exact HLN.out
                      · exact HN.out j (by omega), hbr1⟩
                    case measure => simp [intOf]; omega
        · go_wp2
          go_ret
          exact ⟨ret_bool (HK.out (by unfold nameOk; simp [hz])).symm, hbr⟩
      · obtain rfl : k = xs.length := by omega
        go_wp2
        go_ret
        refine ⟨ret_bool ?_, hbr⟩
        unfold fitOk
        simp [hl]
        exact HN.out
  · go_enter Tryd.func94, Tryd.ntmps94
    go_wp2
    go_ret
    refine ⟨ret_bool ?_, Below.refl _ _⟩
    unfold fitOk
    simp [hl]
end Go.Proofs.YtmbboianghbjkaaDoor
