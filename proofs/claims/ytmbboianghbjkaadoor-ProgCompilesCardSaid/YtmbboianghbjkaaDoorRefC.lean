import Derived.Test.YtmbboianghbjkaaDoorRefB
namespace Go.Proofs.YtmbboianghbjkaaDoor
open Go.RowKit Go.Shelf
set_option linter.unusedVariables false
set_option linter.unusedSimpArgs false
attribute [local go_sem] bl_refl bl_alloc bl_a2 bl_a3 bl_a4 bl_a5 bl_set bl_drew bl_drewN le_add_r lt_add_r Go.Proofs.YtmbboianghbjkaaDoor.addr_add Ex.old

theorem bandOf_nn {u : Int} (h : ¬ bandOf u < 0) : 0 ≤ u ∧ u ≤ 1114367 := by
  unfold bandOf inBand bandLo bandHi at h
  simp at h
  repeat' split at h
  all_goals omega
theorem i32_w64 {u : Int} (h : i32ok u) : wrap64 u = u := by unfold i32ok at h; unfold wrap64; omega
def rngsOk' (xs : List (Int × Int)) : Prop := ∀ x ∈ xs, i32ok x.1 ∧ i32ok x.2
set_option maxHeartbeats 4000000 in
theorem rsetCheck_any (B : Nat) (xs : List (Int × Int)) (sv : Value) (w0 w : World) (hb : Below B w0 w) (hB : B ≤ w.heap.size) (hs : Sl (RngAt B w0) 2 sv xs) (hr : rngsOk' xs) :
    Calls Tryd.prog 122 #[sv] w fun e w' => e = .returned (.int .i64 (errNo (chkAll xs))) ∧ Below w.heap.size w w' := by
  obtain ⟨A, c, rfl, hc1, hc2, hA⟩ := hs
  have HA := Lib.hid hA
  have HRO := Lib.hid hr
  have hl : xs.length ≤ 9223372036854775807 := by omega
  clear hA hc1 hc2 hr
  go_enter Tryd.func122, Tryd.ntmps122
  go_wp2
  go_loopw [3, 4] (fun v3 _ wr => ∃ k : Nat, k ≤ xs.length ∧ v3 = .int .i64 k ∧ (∀ j, j < k → chkAt xs j = true) ∧ Below w.heap.size w wr) (fun v3 _ _ => xs.length - (intOf v3).toNat)
  case atStart => exact ⟨0, by omega, rfl, by omega, Below.refl _ _⟩
  case round =>
    obtain ⟨k, hk, rfl, hn, hb1⟩ := hrel
    by_cases hlt : k < xs.length
    · obtain ⟨b, o, rfl, hR⟩ := HA.out (by omega)
      have HR := Lib.hid hR
      have hb2 : Below B w0 wr := hb.trans (hb1.mono hB)
      have hB2 : B ≤ wr.heap.size := Nat.le_trans hB hb1.size
      have hoB : b < wr.heap.size := by
        have := (hR k hlt).lo wr hb2
        obtain ⟨ob, ho, _⟩ := cells_of_cell this
        exact (Array.getElem?_eq_some_iff.1 ho).1
      have c0 := (hR k hlt).lo
      have c1 := (hR k hlt).hi
      have i0 := (HRO.out _ (List.getElem_mem hlt)).1
      have i1 := (HRO.out _ (List.getElem_mem hlt)).2
      clear hR
      have g0 : xs[k] = xs.getD k (0, 0) := by simp [hlt]
      rw [g0] at c0 c1 i0 i1
      clear g0
      have hc2 : 0 < k → ∀ w', Below B w0 w' → w'.cell? ⟨b, o + (k - 1) * 2 + 1, none⟩ = some (.int .i32 (xs.getD (k - 1) (0, 0)).2) := by
        intro _
        have hk1 : k - 1 < xs.length := by omega
        have h := (HR.out (k - 1) hk1).hi
        rwa [show xs[k - 1] = xs.getD (k - 1) (0, 0) by simp [hk1]] at h
      have HC : Hid (chkAt xs k = chkV k (xs.getD k (0, 0)).1 (xs.getD k (0, 0)).2 (xs.getD (k - 1) (0, 0)).2) := rfl
      have hp : 0 < k → 0 ≤ (xs.getD (k - 1) (0, 0)).2 ∧ (xs.getD (k - 1) (0, 0)).2 ≤ 1114367 := fun h => by
        have := hn (k - 1) (by omega)
        unfold chkAt chkV at this
        simp only [Bool.and_eq_true, Bool.not_eq_true', decide_eq_false_iff_not, decide_eq_true_eq] at this
        exact bandOf_nn (by rw [← this.1.1.2]; exact this.1.1.1)
      have HP := Lib.hid hp
      have HC2 := Lib.hid hc2
      have HN := Lib.hid hn
      clear hp hc2 hn
      generalize hx0 : (xs.getD k (0, 0)).1 = x0 at *
      generalize hx1 : (xs.getD k (0, 0)).2 = x1 at *
      generalize hp1 : (xs.getD (k - 1) (0, 0)).2 = p1 at *
      clear hx0 hx1 hp1
      have k0 := c0 wr hb2
      have k1 := c1 wr hb2
      have c0' := Lib.hid c0
      have c1' := Lib.hid c1
      clear c0 c1
      go_wp2_with fail
      refine (rblock_any x0 _ i0).mono ?_
      rintro e w1 ⟨rfl, hb3⟩
      have hb4 : Below w.heap.size w w1 := hb1.trans (hb3.mono hb1.size)
      have hb5 : Below B w0 w1 := hb.trans (hb4.mono hB)
      have hz := hb3.size
      clear k0 k1
      have k0 := c0'.out w1 hb5
      have k1 := c1'.out w1 hb5
      have hoB1 : b < w1.heap.size := by omega
      have CB := Lib.hid (fun x : Ex w1.heap.size w1 => rblock_any x1 x.val i1)
      have HEND : Hid (∀ x : Ex w1.heap.size w1, Below w.heap.size w x.val) := Lib.hid (fun x => hb4.trans (x.prop.mono hb4.size))
      generalize hv0 : bandOf x0 = v0 at *
      have HV0 := Lib.hid hv0
      clear hv0
      by_cases t1 : v0 < 0
      · have hbad : chkAt xs k = false := by rw [HC.out, chkV, HV0.out]; simp [t1]
        have HBAD := Lib.hid (chk_bad hlt hbad)
        clear HC hbad
        go_wp2
        refine wp_region_ex w1.heap.size (Nat.le_refl _) (by kernel_rfl) (by kernel_rfl) ?_
        repeat (go_big_quiet_step (first | with_reducible rfl | (go_at_call 139; exact quiet_call _ (CB.out _))))
        refine wpQuiet_nil ?_
        rintro _ ⟨x, rfl⟩
        go_wp2
        go_ret
        exact ⟨ret_int (by rw [HBAD.out]; rfl), HEND.out x⟩
      have t1d : decide (v0 < 0) = false := by simpa using t1
      generalize hv1 : bandOf x1 = v1 at *
      have HV1 := Lib.hid hv1
      clear hv1
      by_cases t2 : v0 = v1
      case neg =>
        have t2' : (v0 != v1) = true := by simp [t2]
        have hbad : chkAt xs k = false := by rw [HC.out, chkV, HV0.out, HV1.out]; simp [t2]
        have HBAD := Lib.hid (chk_bad hlt hbad)
        clear HC hbad t2
        go_wp2
        refine wp_region_ex w1.heap.size (Nat.le_refl _) (by kernel_rfl) (by kernel_rfl) ?_
        repeat (go_big_quiet_step (first | with_reducible rfl | (go_at_call 139; exact quiet_call _ (CB.out _))))
        refine wpQuiet_nil ?_
        rintro _ ⟨x, rfl⟩
        go_wp2
        go_ret
        exact ⟨ret_int (by rw [HBAD.out]; rfl), HEND.out x⟩
      have t2' : (v0 != v1) = false := by simp [t2]
      have T2 := Lib.hid t2
      clear t2
      by_cases t3 : x0 ≤ x1
      case neg =>
        have t3' : x1 < x0 := by omega
        have t3d : decide (x1 < x0) = true := by simpa using t3'
        have hbad : chkAt xs k = false := by rw [HC.out, chkV]; simp [t3]
        have HBAD := Lib.hid (chk_bad hlt hbad)
        clear HC hbad t3
        go_wp2
        refine wp_region_ex w1.heap.size (Nat.le_refl _) (by kernel_rfl) (by kernel_rfl) ?_
        repeat (go_big_quiet_step (first | with_reducible rfl | (go_at_call 139; exact quiet_call _ (CB.out _))))
        refine wpQuiet_nil ?_
        rintro _ ⟨x, rfl⟩
        go_wp2
        go_ret
        exact ⟨ret_int (by rw [HBAD.out]; rfl), HEND.out x⟩
      have t3d : decide (x1 < x0) = false := by simp; omega
      have hx0b : 0 ≤ x0 ∧ x0 ≤ 1114367 := bandOf_nn (by rw [HV0.out]; exact t1)
      obtain ⟨hx0l, hx0h⟩ := hx0b
      have hwx0 : wrap64 x0 = x0 := i32_w64 i0
      go_wp2
      refine wp_region_ex w1.heap.size (Nat.le_refl _) (by kernel_rfl) (by kernel_rfl) ?_
      repeat (go_big_quiet_step (first | with_reducible rfl | (go_at_call 139; exact quiet_call _ (CB.out _))))
      refine wpQuiet_nil ?_
      rintro _ ⟨x, rfl⟩
      have hbx : Below w.heap.size w x.val := HEND.out x
      have hbx0 : Below B w0 x.val := hb.trans (hbx.mono hB)
      have m0 := c0'.out _ hbx0
      by_cases t4 : k = 0
      · have hgood : chkAt xs k = true := by rw [HC.out, chkV, HV0.out, HV1.out]; simp [t1, t3, t4, T2.out]; rw [← T2.out]; omega
        have HG := Lib.hid hgood
        subst t4
        clear hgood HC k0 k1
        go_wp2
        go_quiet (fail)
        go_wp2
        go_roundw
        case rel => exact ⟨1, by omega, rfl, fun j hj => (show j = 0 by omega) ▸ HG.out, below_drewN hbx _⟩
        case measure => simp [intOf]; omega
      have hpos : (0 : Int) < k := by omega
      have hposN : 0 < k := by omega
      have hposd : decide (0 < k) = true := by simp; omega
      have m2 := HC2.out (by omega) _ hbx0
      obtain ⟨hp1l, hp1h⟩ := HP.out (by omega)
      have hwp1 : wrap64 p1 = p1 := by unfold wrap64; omega
      have hwp2 : wrap64 (p1 + 1) = p1 + 1 := by unfold wrap64; omega
      have hk1 : ((k : Int) - 1) = ((k - 1 : Nat) : Int) := by omega
      have hw32 : wrap32 (p1 + 1) = p1 + 1 := by unfold wrap32; omega
      have HW32 := Lib.hid hw32
      have T4 := Lib.hid t4
      have T1 := Lib.hid t1
      have T3 := Lib.hid t3
      clear hw32 k0 k1 t4 t1 t3
      by_cases t5 : x0 ≤ p1 + 1
      · have hbad : chkAt xs k = false := by
          rw [HC.out, chkV, HW32.out]
          simp [T4.out]
          omega
        have HBAD := Lib.hid (chk_bad hlt hbad)
        clear HC hbad
        go_wp2
        go_quiet (fail)
        go_wp2
        go_ret
        exact ⟨ret_int (by rw [HBAD.out]; rfl), below_drewN hbx _⟩
      · have t5' : p1 + 1 < x0 := by omega
        have hgood : chkAt xs k = true := by
          rw [HC.out, chkV, HV0.out, HV1.out, HW32.out]
          have := T1.out
          have := T2.out
          have := T3.out
          simp
          omega
        have HG := Lib.hid hgood
        clear HC hgood t5
        go_wp2
        go_quiet (fail)
        go_wp2
        go_roundw
        case rel => exact ⟨k + 1, by omega, by go_num, fun j hj => by
          by_cases e : j = k
          · rw [e]; exact HG.out
          · exact HN.out j (by omega), below_drewN hbx _⟩
        case measure => simp [intOf]; omega
    · obtain rfl : k = xs.length := by omega
      have hall := chk_good hn
      have HALL := Lib.hid hall
      clear hall hn
      go_wp2
      go_ret
      exact ⟨ret_int (by rw [HALL.out]; rfl), hb1⟩
end Go.Proofs.YtmbboianghbjkaaDoor
