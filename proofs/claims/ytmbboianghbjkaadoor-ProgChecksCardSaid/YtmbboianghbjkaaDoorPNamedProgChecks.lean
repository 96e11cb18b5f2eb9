import Derived.Test.YtmbboianghbjkaaDoorPCheckProgChecks
namespace Go.Proofs.YtmbboianghbjkaaDoor
namespace PProgChecks
open Go.RowKit Go.Shelf Go.Proofs.YtmbboianghbjkaaDoorW.PrintWords Go.Proofs.YtmbboianghbjkaaDoorW.PrintLast Go.Proofs.YtmbboianghbjkaaDoorW.PrintMore
set_option linter.unusedVariables false
set_option linter.unusedSimpArgs false
attribute [local go_sem] bl_refl bl_alloc bl_a2 bl_a3 bl_a4 bl_a5 bl_set bl_drew bl_drewN le_add_r lt_add_r Go.Proofs.YtmbboianghbjkaaDoor.addr_add

theorem nameOk_nm (pre : List ByteArray) (s : ByteArray) : nameOk pre s = (nmOk s && !(!(decide (s.size = 0)) && contS pre s)) := by
  unfold nameOk nmOk
  rw [Bool.eq_iff_iff]
  simp only [Bool.and_eq_true]
  constructor
  · rintro ⟨⟨a, b⟩, c⟩; exact ⟨⟨a, c⟩, b⟩
  · rintro ⟨⟨a, c⟩, b⟩; exact ⟨⟨a, b⟩, c⟩
set_option maxHeartbeats 2000000 in
theorem allNamed_any (w : World) (A : Option Addr) (c : Nat) (xs : List ByteArray) (h : Kd.C Kd.string w A xs.length xs) (hc : xs.length ≤ c) (hz : ∀ x ∈ xs, x.size ≤ 140737488351232) :
    Calls Tryd.prog 61 #[.slice A xs.length c] w fun e w' => e = .returned (.bool (fitOk xs)) ∧ Below w.heap.size w w' := by
  have HC := Lib.hid h
  have HZ := Lib.hid hz
  have hlen := h.2.1
  clear h hz
  go_enter Tryd.func61, Tryd.ntmps61
  go_wp2
  go_loopw [3, 4, 7] (fun _ _ v7 wr => ∃ k : Nat, k ≤ xs.length ∧ v7 = .int .i64 k ∧ (∀ j, j < k → nameOk (xs.take j) (xs.getD j default) = true) ∧ Below w.heap.size w wr) (fun _ _ v7 _ => xs.length - (intOf v7).toNat)
  case atStart => exact ⟨0, by omega, rfl, by omega, Below.refl _ _⟩
  case round =>
    obtain ⟨k, hk, rfl, hn, hbr⟩ := hrel
    have HN := Lib.hid hn
    clear hn
    by_cases hlt : k < xs.length
    · have hrd := C_rds (c := c) (Kd.C_below HC.out hbr)
      have HRD := Lib.hid hrd
      obtain ⟨A', c', e, _, hcell0⟩ := hrd
      cases e
      obtain ⟨b, o, rfl, hcell⟩ := hcell0 (by omega)
      have c1 := hcell k hlt
      have hkz := HZ.out _ (List.getElem_mem hlt)
      have HD := Lib.hid (getD_at xs k default hlt)
      clear hcell hcell0
      generalize hx : xs[k] = x at *
      have HX := Lib.hid hx
      clear hx
      have hnk : nameOk (xs.take k) x = false → fitOk xs = false := by
        intro h
        unfold fitOk
        rw [Bool.and_eq_false_iff, List.all_eq_false]
        exact .inr ⟨k, by simpa using hlt, by rw [← HD.out, h]; decide⟩
      have HK := Lib.hid hnk
      have NM := Lib.hid (nameOk_nm (xs.take k) x)
      clear hnk
      go_wp2_with fail
      refine (name_any _ x hkz).mono ?_
      rintro e w1 ⟨rfl, hb1⟩
      have hb2 := hbr.trans (hb1.mono hbr.size)
      by_cases hok : nmOk x = true
      · rw [hok]
        have HOK := Lib.hid hok
        clear hok
        by_cases he : x.toList = []
        · have hz0 : x.size = 0 := by
            rw [ByteArray.toList_eq] at he
            have := congrArg List.length he
            simpa using this
          have HZ0 := Lib.hid hz0
          have hie : x.toList.isEmpty = true := by rw [he]; rfl
          clear he hz0
          go_wp2
          go_roundw
          case rel => exact ⟨k + 1, by omega, by go_num, fun j hj => by
            by_cases e : j = k
            · rw [e, ← HD.out, NM.out, HOK.out]; simp [HZ0.out]
            · exact HN.out j (by omega), hb2⟩
          case measure => simp [intOf]; omega
        · have hie : x.toList.isEmpty = false := by simpa using he
          have hz0 : x.size ≠ 0 := by
            intro h
            rw [ByteArray.toList_eq] at he
            exact he (List.eq_nil_of_length_eq_zero (by simpa using h))
          have HZ0 := Lib.hid hz0
          clear he hz0
          go_wp2_with fail
          refine (containsS_any _ _ (xs.take k) x ⟨some ⟨b, o, none⟩, c, by rw [List.length_take, Nat.min_eq_left hk], by rw [List.length_take, Nat.min_eq_left hk]; omega, fun hp => ⟨b, o, rfl, fun j hj => ?_⟩⟩).mono ?_
          · obtain ⟨A2, c2, e2, _, hcell3⟩ := C_rds (c := c) (Kd.C_below HC.out hb2)
            cases e2
            obtain ⟨b2, o2, e2, hcell2⟩ := hcell3 (by omega)
            cases e2
            have hjl : j < xs.length := by rw [List.length_take] at hj; omega
            have := hcell2 j hjl
            simpa using this
          · rintro e w2 ⟨rfl, nd, rfl⟩
            by_cases hcn : contS (xs.take k) x = true
            · rw [hcn]
              go_wp2
              go_ret
              exact ⟨ret_bool (HK.out (by rw [NM.out, HOK.out]; simp [HZ0.out, hcn])).symm, below_drewN hb2 _⟩
            · rw [show contS (xs.take k) x = false by simpa using hcn]
              have HCN := Lib.hid hcn
              clear hcn
              go_wp2
              go_roundw
              case rel => exact ⟨k + 1, by omega, by go_num, fun j hj => by
                by_cases e : j = k
                · rw [e, ← HD.out, NM.out, HOK.out, show contS (xs.take k) x = false by simpa using HCN.out]; simp
                · exact HN.out j (by omega), below_drewN hb2 _⟩
              case measure => simp [intOf]; omega
      · rw [show nmOk x = false by simpa using hok]
        have HOK := Lib.hid hok
        clear hok
        go_wp2
        go_ret
        exact ⟨ret_bool (HK.out (by rw [NM.out, show nmOk x = false by simpa using HOK.out]; rfl)).symm, hb2⟩
    · obtain rfl : k = xs.length := by omega
      go_wp2
      go_ret
      refine ⟨ret_bool ?_, hbr⟩
      unfold fitOk
      rw [List.all_eq_true.2 (fun j hj => HN.out j (by simpa using hj)), Bool.eq_iff_iff]
      simp
      try omega

/-- The closure of fits. h: its own bits; it lies in cell ph, the count in pc. -/
def plcV (h bit x n : Int) : Bool := if bits .and .i64 h bit = 0 then decide (x = 0) else decide (0 ≤ x) && decide (x < n)
set_option maxHeartbeats 1000000 in
theorem place_any (w : World) (h bit x n : Int) (ph pc : Addr) (h1 : w.cell? ph = some (.int .i64 h)) (h2 : w.cell? pc = some (.int .i64 n)) :
    Calls Tryd.prog 91 #[.int .i64 x, .int .i64 bit, .pointer (some ph), .pointer (some pc)] w fun e w' => e = .returned (.bool (plcV h bit x n)) ∧ ∃ m, w' = w.drewN m := by
  by_cases hb : bits .and .i64 h bit = 0
  · have hb' : (bits .and .i64 h bit == 0) = true := by simp [hb]
    have HB := Lib.hid hb
    clear hb
    go_enter Tryd.func91, Tryd.ntmps91
    go_wp2
    go_ret
    refine ⟨ret_bool ?_, 0, rfl⟩
    unfold plcV
    rw [if_pos HB.out]
    rfl
  · have hb' : (bits .and .i64 h bit == 0) = false := by simp [hb]
    have HB := Lib.hid hb
    clear hb
    by_cases hx : 0 ≤ x
    · go_enter Tryd.func91, Tryd.ntmps91
      go_wp2
      go_ret
      refine ⟨ret_bool ?_, 0, rfl⟩
      unfold plcV
      rw [if_neg HB.out]
      simp [hx]
    · have hx' : decide (0 ≤ x) = false := by simpa using hx
      go_enter Tryd.func91, Tryd.ntmps91
      go_wp2
      go_ret
      refine ⟨ret_bool ?_, 0, rfl⟩
      unfold plcV
      rw [if_neg HB.out]
      simp [hx]
      omega
end PProgChecks
end Go.Proofs.YtmbboianghbjkaaDoor
