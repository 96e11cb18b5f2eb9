import Derived.Test.YtmbboianghbjkaaDoorSides
namespace Go.Proofs.YtmbboianghbjkaaDoor
open Go.RowKit Go.Shelf
set_option linter.unusedVariables false
set_option linter.unusedSimpArgs false
attribute [local go_sem] bl_refl bl_alloc bl_a2 bl_a3 bl_a4 bl_a5 bl_set bl_drew bl_drewN le_add_r lt_add_r addr_add

set_option maxRecDepth 100000 in
set_option maxHeartbeats 4000000 in
theorem sidesB (B : Nat) (w0 w : World) (s : ByteArray) (hs : s.size ≤ 9223372036854775807) (hb : Below B w0 w) (hB : B ≤ w.heap.size) (hg : BandsAt B w0) (hT : TabsAt B w0) (m : Nat) (hm : m ≤ s.size) (hz : m = 0) (hw : m ≠ s.size) :
    Calls Tryd.prog 4 #[.string s, .int .i64 (m : Int)] w fun e w' => e = .returned (.bool true) ∧ Below w.heap.size w w' := by
  have HT := Lib.hid hT
  have AW := Lib.hid (awake_any B w0 w hb hB hg hT)
  clear hT hg
  have b1 := look_raw 1 s m hm (by omega) (by omega)
  have b2 := look_raw 2 s m hm (by omega) (by omega)
  have b3 := look_raw 3 s m hm (by omega) (by omega)
  have b4 := look_raw 4 s m hm (by omega) (by omega)
  have b5 := look_raw 5 s m hm (by omega) (by omega)
  have b6 := look_raw 6 s m hm (by omega) (by omega)
  have b7 := look_raw 7 s m hm (by omega) (by omega)
  have b8 := look_raw 8 s m hm (by omega) (by omega)
  have q56 : (holdV 5 s m == holdV 6 s m) = false := by simp [holdV]
  have h8 : holdV 8 s m = border s (m : Int) := by simp [holdV]
  have z1 : lookE 7 s (m : Int) false = 2 := lookE_arg (by simp)
  have z2 : lookE 9 s (m : Int) true = 2 := lookE_arg (by simp)
  have z3 : lookE 0 s (m : Int) true = 2 := lookE_arg (by simp)
  have v1 : holdV 1 s m = true := by simp [holdV, hz]
  have v2 : holdV 2 s m = false := by simp [holdV, hw]
  have v3 : holdV 3 s m = true := by simp [holdV, hz]
  have v4 : holdV 4 s m = isV s (m : Int) 10 := by
    unfold isV holdV
    simp only [Int.toNat_natCast]
    have : m < s.size := by omega
    simp [hw, this]
  have v7 : holdV 7 s m = decide (1114111 < nextU s m) := by
    simp [holdV, hw]
    omega
  have hz' : ((m : Int) == 0) = true := by simp [hz]
  have hw' : ((m : Int) == (s.size : Int)) = false := by simp; omega
  rw [← b1] at v1
  rw [← b2] at v2
  rw [← b3] at v3
  rw [← b4] at v4
  rw [← b5] at q56
  rw [← b6] at q56
  rw [← b7] at v7
  rw [← b8] at h8
  have BQ := Lib.hid q56
  have V1 := Lib.hid v1
  have V2 := Lib.hid v2
  have V3 := Lib.hid v3
  have V4 := Lib.hid v4
  have V7 := Lib.hid v7
  have V8 := Lib.hid h8
  have Z1 := Lib.hid z1
  have Z2 := Lib.hid z2
  have Z3 := Lib.hid z3
  have HZ := Lib.hid hz
  have HW := Lib.hid hw
  clear hz hw
  clear b1 b2 b3 b4 b5 b6 b7 b8 v1 v2 v3 v4 v7 h8 z1 z2 z3 q56
  have r1 : decide ((m : Int) < 0) = false := by simp
  have r2 : decide (s.size < m) = false := by simp; omega
  have r3 : decide ((s.size : Int) < (m : Int)) = false := by simp; omega
  go_enter Tryd.func4, Tryd.ntmps4
  go_wp2_with fail
  refine AW.out.mono ?_
  rintro e w1 ⟨rfl, hb1⟩
  go_wp2_with fail
  refine (holds_any B w0 w1 s hs (hb.trans (hb1.mono hB)) (Nat.le_trans hB hb1.size) HT.out 5 _ true).mono ?_
  rintro e w2 ⟨rfl, hx2⟩
  have hb2 := hb1.trans (hx2.mono hb1.size)
  clear hx2
  go_wp2_with fail
  refine (holds_any B w0 w2 s hs (hb.trans (hb2.mono hB)) (Nat.le_trans hB hb2.size) HT.out 6 _ true).mono ?_
  rintro e w3 ⟨rfl, hx3⟩
  have hb3 := hb2.trans (hx3.mono hb2.size)
  clear hx3
  have q56 := BQ.out
  generalize lookB 5 s (m : Int) true = p5 at *
  generalize lookB 6 s (m : Int) true = p6 at *
  go_wp2_with fail
  refine (holds_any B w0 w3 s hs (hb.trans (hb3.mono hB)) (Nat.le_trans hB hb3.size) HT.out 1 _ true).mono ?_
  rintro e w4 ⟨rfl, hx4⟩
  have hb4 := hb3.trans (hx4.mono hb3.size)
  clear hx4
  rw [V1.out]
  go_wp2_with fail
  refine (holds_any B w0 w4 s hs (hb.trans (hb4.mono hB)) (Nat.le_trans hB hb4.size) HT.out 2 _ true).mono ?_
  rintro e w5 ⟨rfl, hx5⟩
  have hb5 := hb4.trans (hx5.mono hb4.size)
  clear hx5
  rw [V2.out]
  go_wp2_with fail
  refine (holds_any B w0 w5 s hs (hb.trans (hb5.mono hB)) (Nat.le_trans hB hb5.size) HT.out 3 _ true).mono ?_
  rintro e w6 ⟨rfl, hx6⟩
  have hb6 := hb5.trans (hx6.mono hb5.size)
  clear hx6
  rw [V3.out]
  go_wp2_with fail
  refine (holds_any B w0 w6 s hs (hb.trans (hb6.mono hB)) (Nat.le_trans hB hb6.size) HT.out 4 _ true).mono ?_
  rintro e w7 ⟨rfl, hx7⟩
  have hb7 := hb6.trans (hx7.mono hb6.size)
  clear hx7
  rw [V4.out]
  go_wp2_with fail
  refine (is_any _ s hs _).mono ?_
  rintro e wi ⟨rfl, hwi⟩
  rw [hwi]
  clear hwi wi
  generalize isV s (m : Int) 10 = i4 at *
  go_wp2_with fail
  refine (next_any w7 s m hs (by have := HW.out; omega)).mono ?_
  rintro e w8 ⟨rfl, hx8⟩
  have hb8 := hb7.trans (hx8.mono hb7.size)
  clear hx8
  go_wp2_with fail
  refine (border_any B w0 w8 s _ hs (hb.trans (hb8.mono hB)) (Nat.le_trans hB hb8.size) HT.out).mono ?_
  rintro e w9 ⟨rfl, hx9⟩
  have hb9 := hb8.trans (hx9.mono hb8.size)
  clear hx9
  go_wp2_with fail
  refine (holds_any B w0 w9 s hs (hb.trans (hb9.mono hB)) (Nat.le_trans hB hb9.size) HT.out 8 _ true).mono ?_
  rintro e w10 ⟨rfl, hx10⟩
  have hb10 := hb9.trans (hx10.mono hb9.size)
  clear hx10
  rw [V8.out]
  go_wp2_with fail
  refine (holds_any B w0 w10 s hs (hb.trans (hb10.mono hB)) (Nat.le_trans hB hb10.size) HT.out 7 _ true).mono ?_
  rintro e w11 ⟨rfl, hx11⟩
  have hb11 := hb10.trans (hx11.mono hb10.size)
  clear hx11
  rw [V7.out]
  clear q56
  go_wp2_with fail
  clear r1 r2 r3 hb1 hb2 hb3 hb4 hb5 hb6 hb7 hb8 hb9 hb10
  by_cases hbd : border s (m : Int) = true
  · rw [hbd]
    have HB := Lib.hid hbd
    clear hbd
    go_loopw [13] (fun v13 wr => ∃ k : Nat, 1 ≤ k ∧ k ≤ 7 ∧ v13 = .int .i64 k ∧ Below w.heap.size w wr) (fun v13 _ => 7 - (intOf v13).toNat)
    case atStart => exact ⟨1, by omega, by omega, rfl, hb11⟩
    case round =>
      clear hb11
      obtain ⟨k, hk1, hk7, rfl, hb20⟩ := hrel
      obtain ⟨w20, rfl⟩ : ∃ x : World, x = wr := ⟨_, rfl⟩
      by_cases hlt : k ≤ 6
      · have hki1 : (1 : Int) ≤ (k : Int) := by omega
        have hki2 : (k : Int) ≤ 6 := by omega
        obtain ⟨t1, t2⟩ := look_same (k : Int) s m hm hki1 hki2 HB.out
        have T1 := Lib.hid t1
        have T2 := Lib.hid t2
        clear t1 t2
        go_wp2_with fail
        refine (look_any B w0 w20 s hs (hb.trans (hb20.mono hB)) (Nat.le_trans hB hb20.size) HT.out _ _ false).mono ?_
        rintro e w21 ⟨rfl, hx21⟩
        have hb21 := hb20.trans (hx21.mono hb20.size)
        clear hx21
        rw [T1.out, T2.out]
        go_wp2_with fail
        refine (holds_any B w0 w21 s hs (hb.trans (hb21.mono hB)) (Nat.le_trans hB hb21.size) HT.out _ _ true).mono ?_
        rintro e w22 ⟨rfl, hx22⟩
        have hb22 := hb21.trans (hx22.mono hb21.size)
        clear hx22
        generalize lookB (k : Int) s (m : Int) true = y at *
        go_wp2
        go_roundw
        case rel => exact ⟨k + 1, by omega, by omega, by go_num, hb22⟩
        case measure => simp [intOf]; omega
      · obtain rfl : k = 7 := by omega
        go_wp2_with fail
        refine (look_any B w0 w20 s hs (hb.trans (hb20.mono hB)) (Nat.le_trans hB hb20.size) HT.out 7 _ false).mono ?_
        rintro e w21 ⟨rfl, hx21⟩
        have hb21 := hb20.trans (hx21.mono hb20.size)
        clear hx21
        rw [Z1.out]
        go_wp2_with fail
        refine (look_any B w0 w21 s hs (hb.trans (hb21.mono hB)) (Nat.le_trans hB hb21.size) HT.out 9 _ true).mono ?_
        rintro e w22 ⟨rfl, hx22⟩
        have hb22 := hb21.trans (hx22.mono hb21.size)
        clear hx22
        rw [Z2.out]
        go_wp2_with fail
        refine (look_any B w0 w22 s hs (hb.trans (hb22.mono hB)) (Nat.le_trans hB hb22.size) HT.out 0 _ true).mono ?_
        rintro e w23 ⟨rfl, hx23⟩
        have hb23 := hb22.trans (hx23.mono hb22.size)
        clear hx23
        rw [Z3.out]
        go_wp2
        go_ret
        exact ⟨rfl, hb23⟩
  · have hbf : border s (m : Int) = false := by simpa using hbd
    rw [hbf]
    have HB := Lib.hid hbf
    clear hbd hbf
    go_loopw [13] (fun v13 wr => ∃ k : Nat, 1 ≤ k ∧ k ≤ 7 ∧ v13 = .int .i64 k ∧ Below w.heap.size w wr) (fun v13 _ => 7 - (intOf v13).toNat)
    case atStart => exact ⟨1, by omega, by omega, rfl, hb11⟩
    case round =>
      clear hb11
      obtain ⟨k, hk1, hk7, rfl, hb20⟩ := hrel
      obtain ⟨w20, rfl⟩ : ∃ x : World, x = wr := ⟨_, rfl⟩
      by_cases hlt : k ≤ 6
      · have hki1 : (1 : Int) ≤ (k : Int) := by omega
        have hki2 : (k : Int) ≤ 6 := by omega
        obtain ⟨t1, t2⟩ := look_none (k : Int) s m hki1 hki2 HB.out
        have T1 := Lib.hid t1
        have T2 := Lib.hid t2
        clear t1 t2
        go_wp2_with fail
        refine (look_any B w0 w20 s hs (hb.trans (hb20.mono hB)) (Nat.le_trans hB hb20.size) HT.out _ _ false).mono ?_
        rintro e w21 ⟨rfl, hx21⟩
        have hb21 := hb20.trans (hx21.mono hb20.size)
        clear hx21
        rw [T1.out, T2.out]
        go_wp2
        go_roundw
        case rel => exact ⟨k + 1, by omega, by omega, by go_num, hb21⟩
        case measure => simp [intOf]; omega
      · obtain rfl : k = 7 := by omega
        go_wp2_with fail
        refine (look_any B w0 w20 s hs (hb.trans (hb20.mono hB)) (Nat.le_trans hB hb20.size) HT.out 7 _ false).mono ?_
        rintro e w21 ⟨rfl, hx21⟩
        have hb21 := hb20.trans (hx21.mono hb20.size)
        clear hx21
        rw [Z1.out]
        go_wp2_with fail
        refine (look_any B w0 w21 s hs (hb.trans (hb21.mono hB)) (Nat.le_trans hB hb21.size) HT.out 9 _ true).mono ?_
        rintro e w22 ⟨rfl, hx22⟩
        have hb22 := hb21.trans (hx22.mono hb21.size)
        clear hx22
        rw [Z2.out]
        go_wp2_with fail
        refine (look_any B w0 w22 s hs (hb.trans (hb22.mono hB)) (Nat.le_trans hB hb22.size) HT.out 0 _ true).mono ?_
        rintro e w23 ⟨rfl, hx23⟩
        have hb23 := hb22.trans (hx23.mono hb22.size)
        clear hx23
        rw [Z3.out]
        go_wp2
        go_ret
        exact ⟨rfl, hb23⟩
end Go.Proofs.YtmbboianghbjkaaDoor
