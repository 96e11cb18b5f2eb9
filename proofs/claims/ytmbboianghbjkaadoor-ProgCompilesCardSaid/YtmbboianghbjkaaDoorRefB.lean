import Derived.Test.YtmbboianghbjkaaDoorRefA
namespace Go.Proofs.YtmbboianghbjkaaDoor
open Go.RowKit Go.Shelf
set_option linter.unusedVariables false
set_option linter.unusedSimpArgs false
attribute [local go_sem] bl_refl bl_alloc bl_a2 bl_a3 bl_a4 bl_a5 bl_set bl_drew bl_drewN le_add_r lt_add_r Go.Proofs.YtmbboianghbjkaaDoor.addr_add

theorem toList_empty {x : ByteArray} : x.toList = [] ↔ x.size = 0 := by
  rw [ByteArray.toList_eq]
  constructor
  · intro h
    have := congrArg List.length h
    simpa using this
  · intro h
    exact List.eq_nil_of_length_eq_zero (by simpa using h)
set_option maxHeartbeats 2000000 in
theorem rnames_any (w : World) (v : Value) (xs : List ByteArray) (h : RdS w v xs) (hz : ∀ x ∈ xs, x.size ≤ 140737488351232) :
    Calls Tryd.prog 80 #[v] w fun e w' => e = .returned (.bool (fitOk xs)) ∧ ∃ m, w' = w.drewN m := by
  obtain ⟨A, c, rfl, hlen, h3⟩ := h
  have H3 := Lib.hid h3
  have HZ := Lib.hid hz
  clear h3 hz
  by_cases h40 : xs.length ≤ 40
  case neg =>
    have HN : Hid (fitOk xs = false) := Lib.hid (by unfold fitOk; rw [decide_eq_false h40]; rfl)
    go_enter Tryd.func80, Tryd.ntmps80
    go_wp2
    go_ret
    exact ⟨ret_bool HN.out.symm, 0, rfl⟩
  go_enter Tryd.func80, Tryd.ntmps80
  go_wp2
  go_loopw [3, 4] (fun v3 v4 wr => ∃ k : Nat, k ≤ xs.length ∧ v3 = .int .i64 k ∧ (∀ j, j < k → nameOk (xs.take j) (xs.getD j default) = true) ∧ ∃ m, wr = w.drewN m) (fun v3 v4 _ => xs.length - (intOf v3).toNat)
  case atStart => exact ⟨0, by omega, rfl, by omega, 0, rfl⟩
  case round =>
    obtain ⟨k, hk, rfl, hn, nd, rfl⟩ := hrel
    have HN := Lib.hid hn
    clear hn
    by_cases hlt : k < xs.length
    · obtain ⟨b, o, rfl, hR⟩ := H3.out (by omega)
      have c1 := hR k hlt
      have HR := Lib.hid hR
      have HD := Lib.hid (getD_at xs k default hlt)
      have hxz := HZ.out _ (List.getElem_mem hlt)
      clear hR
      generalize hx : xs[k] = x at *
      have HX := Lib.hid hx
      clear hx
      have hnk : nameOk (xs.take k) x = false → fitOk xs = false := by
        intro h
        unfold fitOk
        rw [Bool.and_eq_false_iff, List.all_eq_false]
        exact .inr ⟨k, by simpa using hlt, by rw [← HD.out, h]; decide⟩
      have HK := Lib.hid hnk
      have NM := Lib.hid (nameOk_nm (xs.take k) x)
      clear hnk
      go_wp2_with fail
      refine (rname_any _ x hxz).mono ?_
      rintro e w1 ⟨rfl, rfl⟩
      by_cases hok : nmOk x = true
      case neg =>
        rw [show nmOk x = false by simpa using hok]
        have HOK := Lib.hid hok
        clear hok
        go_wp2
        go_ret
        exact ⟨ret_bool (HK.out (by rw [NM.out, show nmOk x = false by simpa using HOK.out]; rfl)).symm, _, rfl⟩
      rw [hok]
      have HOK := Lib.hid hok
      clear hok
      by_cases he : x.toList = []
      · have HE := Lib.hid (toList_empty.1 he)
        have hie : x.toList.isEmpty = true := by rw [he]; rfl
        clear he
        go_wp2
        go_loopw [4] (fun v4 wr => ∃ k2 : Nat, k2 ≤ k ∧ v4 = .int .i64 k2 ∧ ∃ m, wr = w.drewN m) (fun v4 _ => k - (intOf v4).toNat)
        case atStart => exact ⟨0, by omega, rfl, _, rfl⟩
        case round =>
          obtain ⟨k2, hk2, rfl, nd2, rfl⟩ := hrel
          have c1' : (w.drewN nd2).cell? ⟨b, o + k, none⟩ = some (.string x) := c1
          by_cases hlt2 : k2 < k
          · have c2 := HR.out k2 (by omega)
            have c2' : (w.drewN nd2).cell? ⟨b, o + k2, none⟩ = _ := c2
            go_wp2
            go_quiet (fail)
            go_wp2
            go_roundw
            case rel => exact ⟨k2 + 1, by omega, by go_num, by first | exact ⟨_, rfl⟩ | exact ⟨_, World.drewN_drewN ..⟩⟩
            case measure => simp [intOf]; omega
          · obtain rfl : k2 = k := by omega
            go_wp2
            go_roundw
            case rel => exact ⟨k2 + 1, by omega, by go_num, fun j hj => by
              by_cases e : j = k2
              · rw [e, ← HD.out, NM.out, HOK.out]; simp [HE.out]
              · exact HN.out j (by omega), _, rfl⟩
            case measure => simp [intOf]; omega
      · have HE := Lib.hid (fun h => he (toList_empty.2 h))
        have hie : x.toList.isEmpty = false := by simpa using he
        clear he
        go_wp2
        go_loopw [4] (fun v4 wr => ∃ k2 : Nat, k2 ≤ k ∧ v4 = .int .i64 k2 ∧ (∀ j, j < k2 → (x.toList == (xs.getD j default).toList) = false) ∧ ∃ m, wr = w.drewN m) (fun v4 _ => k - (intOf v4).toNat)
        case atStart => exact ⟨0, by omega, rfl, by omega, _, rfl⟩
        case round =>
          obtain ⟨k2, hk2, rfl, hq, nd2, rfl⟩ := hrel
          have HQ := Lib.hid hq
          clear hq
          have c1' : (w.drewN nd2).cell? ⟨b, o + k, none⟩ = some (.string x) := c1
          by_cases hlt2 : k2 < k
          · have hl2 : k2 < xs.length := by omega
            have c2 := HR.out k2 hl2
            have c2' : (w.drewN nd2).cell? ⟨b, o + k2, none⟩ = _ := c2
            have HD2 := Lib.hid (getD_at xs k2 default hl2)
            generalize hy : xs[k2] = y at *
            have HY := Lib.hid hy
            clear hy
            by_cases hxy : (x.toList == y.toList) = true
            · have hyx : (y.toList == x.toList) = true := by simp at hxy ⊢; exact hxy.symm
              have hcs : contS (xs.take k) x = true := by
                unfold contS
                rw [List.any_eq_true]
                exact ⟨y, by rw [← HY.out]; exact List.mem_iff_getElem.2 ⟨k2, by rw [List.length_take]; omega, by simp⟩, hxy⟩
              have HCS := Lib.hid hcs
              clear hcs
              go_wp2
              go_quiet (fail)
              go_wp2
              go_ret
              exact ⟨ret_bool (HK.out (by rw [NM.out, HOK.out, HCS.out, decide_eq_false (show ¬ x.size = 0 from HE.out)]; rfl)).symm, by first | exact ⟨_, rfl⟩ | exact ⟨_, World.drewN_drewN ..⟩⟩
            · have hxy' : (x.toList == y.toList) = false := by simpa using hxy
              have hyx : (y.toList == x.toList) = false := by simp at hxy' ⊢; exact fun h => hxy' h.symm
              have HXY := Lib.hid hxy'
              clear hxy
              go_wp2
              go_quiet (fail)
              go_wp2
              go_roundw
              case rel => exact ⟨k2 + 1, by omega, by go_num, fun j hj => by
                by_cases e : j = k2
                · rw [e, ← HD2.out]; exact HXY.out
                · exact HQ.out j (by omega), by first | exact ⟨_, rfl⟩ | exact ⟨_, World.drewN_drewN ..⟩⟩
              case measure => simp [intOf]; omega
          · obtain rfl : k2 = k := by omega
            go_wp2
            go_roundw
            case rel => exact ⟨k2 + 1, by omega, by go_num, fun j hj => by
              by_cases e : j = k2
              · have hcs : contS (xs.take k2) x = false := by
                  unfold contS
                  rw [List.any_eq_false]
                  intro y hy
                  obtain ⟨i, hi, rfl⟩ := List.mem_iff_getElem.1 hy
                  rw [List.length_take] at hi
                  have := HQ.out i (by omega)
                  rw [← getD_at xs i default (by omega)] at this
                  rw [List.getElem_take, this]
                  decide
                rw [e, ← HD.out, NM.out, HOK.out, hcs]; simp
              · exact HN.out j (by omega), _, rfl⟩
            case measure => simp [intOf]; omega
    · obtain rfl : k = xs.length := by omega
      go_wp2
      go_ret
      refine ⟨ret_bool ?_, _, rfl⟩
      unfold fitOk
      rw [List.all_eq_true.2 (fun j hj => HN.out j (by simpa using hj)), decide_eq_true h40]
      rfl
set_option maxHeartbeats 2000000 in
theorem rpnames_any (w : World) (v : Value) (xs : List ByteArray) (h : RdS w v xs) (hz : ∀ x ∈ xs, x.size ≤ 140737488351232) :
    Calls Tryd.prog 47 #[v] w fun e w' => e = .returned (.bool (fitOk xs)) ∧ ∃ m, w' = w.drewN m := by
  obtain ⟨A, c, rfl, hlen, h3⟩ := h
  have H3 := Lib.hid h3
  have HZ := Lib.hid hz
  clear h3 hz
  by_cases h40 : xs.length ≤ 40
  case neg =>
    have HN : Hid (fitOk xs = false) := Lib.hid (by unfold fitOk; rw [decide_eq_false h40]; rfl)
    go_enter Tryd.func47, Tryd.ntmps47
    go_wp2
    go_ret
    exact ⟨ret_bool HN.out.symm, 0, rfl⟩
  go_enter Tryd.func47, Tryd.ntmps47
  go_wp2
  go_loopw [3, 4] (fun v3 v4 wr => ∃ k : Nat, k ≤ xs.length ∧ v3 = .int .i64 k ∧ (∀ j, j < k → nameOk (xs.take j) (xs.getD j default) = true) ∧ ∃ m, wr = w.drewN m) (fun v3 v4 _ => xs.length - (intOf v3).toNat)
  case atStart => exact ⟨0, by omega, rfl, by omega, 0, rfl⟩
  case round =>
    obtain ⟨k, hk, rfl, hn, nd, rfl⟩ := hrel
    have HN := Lib.hid hn
    clear hn
    by_cases hlt : k < xs.length
    · obtain ⟨b, o, rfl, hR⟩ := H3.out (by omega)
      have c1 := hR k hlt
      have HR := Lib.hid hR
      have HD := Lib.hid (getD_at xs k default hlt)
      have hxz := HZ.out _ (List.getElem_mem hlt)
      clear hR
      generalize hx : xs[k] = x at *
      have HX := Lib.hid hx
      clear hx
      have hnk : nameOk (xs.take k) x = false → fitOk xs = false := by
        intro h
        unfold fitOk
        rw [Bool.and_eq_false_iff, List.all_eq_false]
        exact .inr ⟨k, by simpa using hlt, by rw [← HD.out, h]; decide⟩
      have HK := Lib.hid hnk
      have NM := Lib.hid (nameOk_nm (xs.take k) x)
      clear hnk
      go_wp2_with fail
      refine (rpname_any _ x hxz).mono ?_
      rintro e w1 ⟨rfl, rfl⟩
      by_cases hok : nmOk x = true
      case neg =>
        rw [show nmOk x = false by simpa using hok]
        have HOK := Lib.hid hok
        clear hok
        go_wp2
        go_ret
        exact ⟨ret_bool (HK.out (by rw [NM.out, show nmOk x = false by simpa using HOK.out]; rfl)).symm, _, rfl⟩
      rw [hok]
      have HOK := Lib.hid hok
      clear hok
      by_cases he : x.toList = []
      · have HE := Lib.hid (toList_empty.1 he)
        have hie : x.toList.isEmpty = true := by rw [he]; rfl
        clear he
        go_wp2
        go_loopw [4] (fun v4 wr => ∃ k2 : Nat, k2 ≤ k ∧ v4 = .int .i64 k2 ∧ ∃ m, wr = w.drewN m) (fun v4 _ => k - (intOf v4).toNat)
        case atStart => exact ⟨0, by omega, rfl, _, rfl⟩
        case round =>
          obtain ⟨k2, hk2, rfl, nd2, rfl⟩ := hrel
          have c1' : (w.drewN nd2).cell? ⟨b, o + k, none⟩ = some (.string x) := c1
          by_cases hlt2 : k2 < k
          · have c2 := HR.out k2 (by omega)
            have c2' : (w.drewN nd2).cell? ⟨b, o + k2, none⟩ = _ := c2
            go_wp2
            go_quiet (fail)
            go_wp2
            go_roundw
            case rel => exact ⟨k2 + 1, by omega, by go_num, by first | exact ⟨_, rfl⟩ | exact ⟨_, World.drewN_drewN ..⟩⟩
            case measure => simp [intOf]; omega
          · obtain rfl : k2 = k := by omega
            go_wp2
            go_roundw
            case rel => exact ⟨k2 + 1, by omega, by go_num, fun j hj => by
              by_cases e : j = k2
              · rw [e, ← HD.out, NM.out, HOK.out]; simp [HE.out]
              · exact HN.out j (by omega), _, rfl⟩
            case measure => simp [intOf]; omega
      · have HE := Lib.hid (fun h => he (toList_empty.2 h))
        have hie : x.toList.isEmpty = false := by simpa using he
        clear he
        go_wp2
        go_loopw [4] (fun v4 wr => ∃ k2 : Nat, k2 ≤ k ∧ v4 = .int .i64 k2 ∧ (∀ j, j < k2 → (x.toList == (xs.getD j default).toList) = false) ∧ ∃ m, wr = w.drewN m) (fun v4 _ => k - (intOf v4).toNat)
        case atStart => exact ⟨0, by omega, rfl, by omega, _, rfl⟩
        case round =>
          obtain ⟨k2, hk2, rfl, hq, nd2, rfl⟩ := hrel
          have HQ := Lib.hid hq
          clear hq
          have c1' : (w.drewN nd2).cell? ⟨b, o + k, none⟩ = some (.string x) := c1
          by_cases hlt2 : k2 < k
          · have hl2 : k2 < xs.length := by omega
            have c2 := HR.out k2 hl2
            have c2' : (w.drewN nd2).cell? ⟨b, o + k2, none⟩ = _ := c2
            have HD2 := Lib.hid (getD_at xs k2 default hl2)
            generalize hy : xs[k2] = y at *
            have HY := Lib.hid hy
            clear hy
            by_cases hxy : (x.toList == y.toList) = true
            · have hyx : (y.toList == x.toList) = true := by simp at hxy ⊢; exact hxy.symm
              have hcs : contS (xs.take k) x = true := by
                unfold contS
                rw [List.any_eq_true]
                exact ⟨y, by rw [← HY.out]; exact List.mem_iff_getElem.2 ⟨k2, by rw [List.length_take]; omega, by simp⟩, hxy⟩
              have HCS := Lib.hid hcs
              clear hcs
              go_wp2
              go_quiet (fail)
              go_wp2
              go_ret
              exact ⟨ret_bool (HK.out (by rw [NM.out, HOK.out, HCS.out, decide_eq_false (show ¬ x.size = 0 from HE.out)]; rfl)).symm, by first | exact ⟨_, rfl⟩ | exact ⟨_, World.drewN_drewN ..⟩⟩
            · have hxy' : (x.toList == y.toList) = false := by simpa using hxy
              have hyx : (y.toList == x.toList) = false := by simp at hxy' ⊢; exact fun h => hxy' h.symm
              have HXY := Lib.hid hxy'
              clear hxy
              go_wp2
              go_quiet (fail)
              go_wp2
              go_roundw
              case rel => exact ⟨k2 + 1, by omega, by go_num, fun j hj => by
                by_cases e : j = k2
                · rw [e, ← HD2.out]; exact HXY.out
                · exact HQ.out j (by omega), by first | exact ⟨_, rfl⟩ | exact ⟨_, World.drewN_drewN ..⟩⟩
              case measure => simp [intOf]; omega
          · obtain rfl : k2 = k := by omega
            go_wp2
            go_roundw
            case rel => exact ⟨k2 + 1, by omega, by go_num, fun j hj => by
              by_cases e : j = k2
              · have hcs : contS (xs.take k2) x = false := by
                  unfold contS
                  rw [List.any_eq_false]
                  intro y hy
                  obtain ⟨i, hi, rfl⟩ := List.mem_iff_getElem.1 hy
                  rw [List.length_take] at hi
                  have := HQ.out i (by omega)
                  rw [← getD_at xs i default (by omega)] at this
                  rw [List.getElem_take, this]
                  decide
                rw [e, ← HD.out, NM.out, HOK.out, hcs]; simp
              · exact HN.out j (by omega), _, rfl⟩
            case measure => simp [intOf]; omega
    · obtain rfl : k = xs.length := by omega
      go_wp2
      go_ret
      refine ⟨ret_bool ?_, _, rfl⟩
      unfold fitOk
      rw [List.all_eq_true.2 (fun j hj => HN.out j (by simpa using hj)), decide_eq_true h40]
      rfl

def i32ok (n : Int) : Prop := -2147483648 ≤ n ∧ n ≤ 2147483647
set_option maxHeartbeats 2000000 in
theorem rblock_any (u : Int) (w : World) (hu : i32ok u) : Calls Tryd.prog 139 #[.int .i32 u] w fun e w' => e = .returned (.int .i64 (bandOf u)) ∧ Below w.heap.size w w' := by
  have hw : wrap64 u = u := by unfold i32ok at hu; unfold wrap64; omega
  have hbig : u ≤ 2147483647 := hu.2
  clear hu
  obtain ⟨W, hW⟩ : ∃ W, W = w.alloc (.cells #[.int .i64 0, .int .i64 55295, .int .i64 57344, .int .i64 1114111, .int .i64 1114240, .int .i64 1114367] 191) := ⟨_, rfl⟩
  have hbW : Below w.heap.size w W := by rw [hW]; exact (Below.refl _ _).alloc (Nat.le_refl _) _
  have hcell : W.heap[w.heap.size]? = some (.cells #[.int .i64 0, .int .i64 55295, .int .i64 57344, .int .i64 1114111, .int .i64 1114240, .int .i64 1114367] 191 (0, 0)) := by rw [hW]; exact World.alloc_heap_new w _
  have k0 : W.cell? ⟨w.heap.size, 0, none⟩ = some (.int .i64 0) := by simp [World.cell?, hcell]
  have k1 : W.cell? ⟨w.heap.size, 1, none⟩ = some (.int .i64 55295) := by simp [World.cell?, hcell]
  have k2 : W.cell? ⟨w.heap.size, 2, none⟩ = some (.int .i64 57344) := by simp [World.cell?, hcell]
  have k3 : W.cell? ⟨w.heap.size, 3, none⟩ = some (.int .i64 1114111) := by simp [World.cell?, hcell]
  have k4 : W.cell? ⟨w.heap.size, 4, none⟩ = some (.int .i64 1114240) := by simp [World.cell?, hcell]
  have k5 : W.cell? ⟨w.heap.size, 5, none⟩ = some (.int .i64 1114367) := by simp [World.cell?, hcell]
  have hbl : Calls Tryd.prog 145 #[] w fun e w' => e = .returned (.slice (some ⟨w.heap.size, 0, none⟩) 3 3) ∧ w' = W := by
    rw [hW]
    go_enter Tryd.func145, Tryd.ntmps145
    go_wp2
    go_ret
    exact ⟨rfl, rfl⟩
  have HBL := Lib.hid hbl
  clear hbl hcell
  have HBW := Lib.hid hbW
  clear hbW hW
  go_enter Tryd.func139, Tryd.ntmps139
  go_wp2_with fail
  refine HBL.out.mono ?_
  rintro e w1 ⟨rfl, rfl⟩
  go_wp2
  go_loopw [4] (fun v4 wr => ∃ k : Nat, k ≤ 3 ∧ v4 = .int .i64 k ∧ (∀ j, j < k → inBand j u = false) ∧ wr = w1) (fun v4 _ => 3 - (intOf v4).toNat)
  case atStart => exact ⟨0, by omega, rfl, by omega, rfl⟩
  case round =>
    obtain ⟨k, hk, rfl, hn, rfl⟩ := hrel
    have HN := Lib.hid hn
    clear hn
    have HB : Hid (∀ i, inBand i u = true → k = i → bandOf u = i) := Lib.hid (by
      intro i hi e
      subst e
      have h0 := HN.out 0
      have h1 := HN.out 1
      unfold bandOf
      rcases (show k = 0 ∨ k = 1 ∨ k = 2 ∨ k = 3 by omega) with rfl | rfl | rfl | rfl
      · rw [hi]; rfl
      · rw [h0 (by omega), hi]; rfl
      · rw [h0 (by omega), h1 (by omega), hi]; rfl
      · exfalso
        have h2 := HN.out 2 (by omega)
        unfold inBand bandLo bandHi at hi h2
        simp at hi h2
        omega)
    rcases (show k = 0 ∨ k = 1 ∨ k = 2 ∨ k = 3 by omega) with rfl | rfl | rfl | rfl
    · by_cases hin : inBand 0 u = true
      · have hin' := hin
        unfold inBand bandLo bandHi at hin'
        simp at hin'
        obtain ⟨g1, g2⟩ := hin'
        have HIN := Lib.hid (HB.out 0 hin rfl)
        clear hin
        go_wp2
        go_ret
        exact ⟨by rw [HIN.out]; rfl, HBW.out⟩
      · have hin' := hin
        unfold inBand bandLo bandHi at hin'
        simp at hin'
        have HIN := Lib.hid (show inBand 0 u = false by simpa using hin)
        clear hin
        go_wp2
        all_goals first | (exfalso; omega) | skip
        all_goals
          go_roundw
          case rel => exact ⟨1, by omega, by go_num, fun j hj => (show j = 0 by omega) ▸ HIN.out, by first | rfl | trivial⟩
          case measure => simp [intOf]
    · by_cases hin : inBand 1 u = true
      · have hin' := hin
        unfold inBand bandLo bandHi at hin'
        simp at hin'
        obtain ⟨g1, g2⟩ := hin'
        have HIN := Lib.hid (HB.out 1 hin rfl)
        clear hin
        go_wp2
        go_ret
        exact ⟨by rw [HIN.out]; rfl, HBW.out⟩
      · have hin' := hin
        unfold inBand bandLo bandHi at hin'
        simp at hin'
        have HIN := Lib.hid (show inBand 1 u = false by simpa using hin)
        clear hin
        go_wp2
        all_goals first | (exfalso; omega) | skip
        all_goals
          go_roundw
          case rel => exact ⟨2, by omega, by go_num, fun j hj => by
            rcases (show j = 0 ∨ j = 1 by omega) with rfl | rfl
            · exact HN.out 0 (by omega)
            · exact HIN.out, by first | rfl | trivial⟩
          case measure => simp [intOf]
    · by_cases hin : inBand 2 u = true
      · have hin' := hin
        unfold inBand bandLo bandHi at hin'
        simp at hin'
        obtain ⟨g1, g2⟩ := hin'
        have HIN := Lib.hid (HB.out 2 hin rfl)
        clear hin
        go_wp2
        go_ret
        exact ⟨by rw [HIN.out]; rfl, HBW.out⟩
      · have hin' := hin
        unfold inBand bandLo bandHi at hin'
        simp at hin'
        have HIN := Lib.hid (show inBand 2 u = false by simpa using hin)
        clear hin
        go_wp2
        all_goals first | (exfalso; omega) | skip
        all_goals
          go_roundw
          case rel => exact ⟨3, by omega, by go_num, fun j hj => by
            rcases (show j = 0 ∨ j = 1 ∨ j = 2 by omega) with rfl | rfl | rfl
            · exact HN.out 0 (by omega)
            · exact HN.out 1 (by omega)
            · exact HIN.out, by first | rfl | trivial⟩
          case measure => simp [intOf]
    · have HIN : Hid (bandOf u = -1) := Lib.hid (by
        unfold bandOf
        rw [HN.out 0 (by omega), HN.out 1 (by omega), HN.out 2 (by omega)]
        rfl)
      go_wp2
      go_ret
      exact ⟨by rw [HIN.out]; rfl, HBW.out⟩
end Go.Proofs.YtmbboianghbjkaaDoor
