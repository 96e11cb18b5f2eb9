import Derived.Test.YtmbboianghbjkaaDoorPFitsProgChecks
namespace Go.Proofs.YtmbboianghbjkaaDoor
namespace PProgChecks
open Go.RowKit Go.Shelf Go.Proofs.YtmbboianghbjkaaDoorW.PrintWords Go.Proofs.YtmbboianghbjkaaDoorW.PrintLast Go.Proofs.YtmbboianghbjkaaDoorW.PrintMore
set_option linter.unusedVariables false
set_option linter.unusedSimpArgs false
attribute [local go_sem] bl_refl bl_alloc bl_a2 bl_a3 bl_a4 bl_a5 bl_set bl_drew bl_drewN le_add_r lt_add_r Go.Proofs.YtmbboianghbjkaaDoor.addr_add

set_option maxHeartbeats 4000000 in
theorem fits_2 (w : World) (A : Option Addr) (c : Nat) (l : List S96) (x y n count groups : Int) (raw : Bool) (h : Kd.C k96 w A l.length l) (hc : l.length ≤ c) (hg : BandsAt w.heap.size w) :
    Calls Tryd.prog 62 #[.agg #[.int .i64 2, .slice A l.length c, .int .i64 x, .int .i64 y, .int .i64 n], .int .i64 count, .int .i64 groups, .bool raw] w fun e w' => e = .returned (.bool (fitsV 2 l x y n count groups raw)) ∧ Below w.heap.size w w' := by
  have HF : Hid (fitsV 2 l x y n count groups raw = (decide ((0 : Int) ≤ 3) && plcV 3 1 x count && plcV 3 2 y count && (if bits .and .i64 3 4 = 0 then decide (n = 0) else numR 2 n groups raw) && (if bits .and .i64 3 8 = 0 then decide (l.length = 0) else setOk l raw))) := by
    refine Lib.hid ?_
    unfold fitsV
    rw [(show hasV 2 = 3 from rfl)]
  have HH : Hid (prog_has.f 9 2 = some (3)) := Lib.hid (by rw [has_f, (show hasV 2 = 3 from rfl)])
  have HC := Lib.hid h
  have HG := Lib.hid hg
  have hlen := h.2.1
  clear h hg
  go_enter Tryd.func62, Tryd.ntmps62
  go_wp2_with fail
  refine (prog_has.calls 9 _ (3) _ HH.out).mono ?_
  rintro e w1 ⟨rfl, nd, rfl⟩
  go_wp2_with fail
  refine (place_any _ 3 1 x count _ _ ?_ ?_).mono ?_
  rotate_left 2
  rintro e w2 ⟨rfl, nd2, rfl⟩
  by_cases p1 : plcV 3 1 x count = true
  case neg =>
    rw [show plcV 3 1 x count = false by simpa using p1]
    have P1 := Lib.hid p1
    clear p1
    go_wp2
    go_ret
    exact ⟨ret_bool (by rw [HF.out, show plcV 3 1 x count = false by simpa using P1.out]; simp), (by repeat' (first | exact Below.refl _ _ | (refine below_drewN ?_ _) | (refine Below.alloc ?_ ?_ _) | (refine below_set ?_ ?_) | (simp; done) | (simp; omega)))⟩
  rw [p1]
  have P1 := Lib.hid p1
  clear p1
  go_wp2_with fail
  refine (place_any _ 3 2 y count _ _ ?_ ?_).mono ?_
  rotate_left 2
  rintro e w3 ⟨rfl, nd3, rfl⟩
  by_cases p2 : plcV 3 2 y count = true
  case neg =>
    rw [show plcV 3 2 y count = false by simpa using p2]
    have P2 := Lib.hid p2
    clear p2
    go_wp2
    go_ret
    exact ⟨ret_bool (by rw [HF.out, show plcV 3 2 y count = false by simpa using P2.out]; simp), (by repeat' (first | exact Below.refl _ _ | (refine below_drewN ?_ _) | (refine Below.alloc ?_ ?_ _) | (refine below_set ?_ ?_) | (simp; done) | (simp; omega)))⟩
  rw [p2]
  have P2 := Lib.hid p2
  clear p2
  by_cases n0 : n = 0
  case neg =>
    have n0' : (n == 0) = false := by simp [n0]
    have N0 := Lib.hid n0
    clear n0
    go_wp2
    go_ret
    exact ⟨ret_bool (by rw [HF.out, P1.out, P2.out, if_pos (show bits .and .i64 3 4 = 0 from rfl), if_pos (show bits .and .i64 3 8 = 0 from rfl)]; simp only [show decide ((0 : Int) ≤ 3) = true from rfl, Bool.true_and]; simp [N0.out]), (by repeat' (first | exact Below.refl _ _ | (refine below_drewN ?_ _) | (refine Below.alloc ?_ ?_ _) | (refine below_set ?_ ?_) | (simp; done) | (simp; omega)))⟩
  subst n0
  go_wp2
  go_ret
  refine ⟨ret_bool ?_, (by repeat' (first | exact Below.refl _ _ | (refine below_drewN ?_ _) | (refine Below.alloc ?_ ?_ _) | (refine below_set ?_ ?_) | (simp; done) | (simp; omega)))⟩
  rw [HF.out, P1.out, P2.out, if_pos (show bits .and .i64 3 4 = 0 from rfl), if_pos (show bits .and .i64 3 8 = 0 from rfl)]; simp only [show decide ((0 : Int) ≤ 3) = true from rfl, Bool.true_and]
  rw [Bool.eq_iff_iff]
  simp
  try omega
  all_goals first | (go_simp; done) | (simp [go_sem]; done)
set_option maxHeartbeats 4000000 in
theorem fits_5 (w : World) (A : Option Addr) (c : Nat) (l : List S96) (op x y n count groups : Int) (raw : Bool) (hop : hasV op = 5) (h : Kd.C k96 w A l.length l) (hc : l.length ≤ c) (hg : BandsAt w.heap.size w) :
    Calls Tryd.prog 62 #[.agg #[.int .i64 op, .slice A l.length c, .int .i64 x, .int .i64 y, .int .i64 n], .int .i64 count, .int .i64 groups, .bool raw] w fun e w' => e = .returned (.bool (fitsV op l x y n count groups raw)) ∧ Below w.heap.size w w' := by
  have HF : Hid (fitsV op l x y n count groups raw = (decide ((0 : Int) ≤ 5) && plcV 5 1 x count && plcV 5 2 y count && (if bits .and .i64 5 4 = 0 then decide (n = 0) else numR op n groups raw) && (if bits .and .i64 5 8 = 0 then decide (l.length = 0) else setOk l raw))) := by
    refine Lib.hid ?_
    unfold fitsV
    rw [hop]
  have HH : Hid (prog_has.f 9 op = some (5)) := Lib.hid (by rw [has_f, hop])
  clear hop
  have HC := Lib.hid h
  have HG := Lib.hid hg
  have hlen := h.2.1
  clear h hg
  go_enter Tryd.func62, Tryd.ntmps62
  go_wp2_with fail
  refine (prog_has.calls 9 _ (5) _ HH.out).mono ?_
  rintro e w1 ⟨rfl, nd, rfl⟩
  go_wp2_with fail
  refine (place_any _ 5 1 x count _ _ ?_ ?_).mono ?_
  rotate_left 2
  rintro e w2 ⟨rfl, nd2, rfl⟩
  by_cases p1 : plcV 5 1 x count = true
  case neg =>
    rw [show plcV 5 1 x count = false by simpa using p1]
    have P1 := Lib.hid p1
    clear p1
    go_wp2
    go_ret
    exact ⟨ret_bool (by rw [HF.out, show plcV 5 1 x count = false by simpa using P1.out]; simp), (by repeat' (first | exact Below.refl _ _ | (refine below_drewN ?_ _) | (refine Below.alloc ?_ ?_ _) | (refine below_set ?_ ?_) | (simp; done) | (simp; omega)))⟩
  rw [p1]
  have P1 := Lib.hid p1
  clear p1
  go_wp2_with fail
  refine (place_any _ 5 2 y count _ _ ?_ ?_).mono ?_
  rotate_left 2
  rintro e w3 ⟨rfl, nd3, rfl⟩
  by_cases p2 : plcV 5 2 y count = true
  case neg =>
    rw [show plcV 5 2 y count = false by simpa using p2]
    have P2 := Lib.hid p2
    clear p2
    go_wp2
    go_ret
    exact ⟨ret_bool (by rw [HF.out, show plcV 5 2 y count = false by simpa using P2.out]; simp), (by repeat' (first | exact Below.refl _ _ | (refine below_drewN ?_ _) | (refine Below.alloc ?_ ?_ _) | (refine below_set ?_ ?_) | (simp; done) | (simp; omega)))⟩
  rw [p2]
  have P2 := Lib.hid p2
  clear p2
  go_wp2_with fail
  refine (prog_number.calls op A c l x y n groups raw (numR op n groups raw) _ (Kd.C_below HC.out (by repeat' (first | exact Below.refl _ _ | (refine below_drewN ?_ _) | (refine Below.alloc ?_ ?_ _) | (refine below_set ?_ ?_) | (simp; done) | (simp; omega)))) hc (number_f _ _ _ _ _ _ _)).mono ?_
  rintro e w4 ⟨rfl, hb4⟩
  have hb5 := Below.trans (show Below w.heap.size w _ from (by repeat' (first | exact Below.refl _ _ | (refine below_drewN ?_ _) | (refine Below.alloc ?_ ?_ _) | (refine below_set ?_ ?_) | (simp; done) | (simp; omega)))) (hb4.mono (by simp; try omega))
  obtain ⟨hcl, hfz⟩ := bcell hb4
  have hzz := hb4.size
  simp at hzz
  clear hb4
  by_cases r : numR op n groups raw = true
  case neg =>
    rw [show numR op n groups raw = false by simpa using r]
    have R := Lib.hid r
    clear r
    go_wp2
    go_ret
    exact ⟨ret_bool (by rw [HF.out, P1.out, P2.out, if_neg (show ¬ bits .and .i64 5 4 = 0 by decide), if_pos (show bits .and .i64 5 8 = 0 from rfl)]; simp only [show decide ((0 : Int) ≤ 5) = true from rfl, Bool.true_and]; rw [show numR op n groups raw = false by simpa using R.out]; simp), hb5⟩
  rw [r]
  have R := Lib.hid r
  clear r
  go_wp2
  go_ret
  refine ⟨ret_bool ?_, hb5⟩
  rw [HF.out, P1.out, P2.out, if_neg (show ¬ bits .and .i64 5 4 = 0 by decide), if_pos (show bits .and .i64 5 8 = 0 from rfl)]; simp only [show decide ((0 : Int) ≤ 5) = true from rfl, Bool.true_and]
  rw [R.out, Bool.eq_iff_iff]
  simp
  try omega
  all_goals first | (go_simp; done) | (simp [go_sem]; done)
set_option maxHeartbeats 4000000 in
theorem fits_1 (w : World) (A : Option Addr) (c : Nat) (l : List S96) (x y n count groups : Int) (raw : Bool) (h : Kd.C k96 w A l.length l) (hc : l.length ≤ c) (hg : BandsAt w.heap.size w) :
    Calls Tryd.prog 62 #[.agg #[.int .i64 1, .slice A l.length c, .int .i64 x, .int .i64 y, .int .i64 n], .int .i64 count, .int .i64 groups, .bool raw] w fun e w' => e = .returned (.bool (fitsV 1 l x y n count groups raw)) ∧ Below w.heap.size w w' := by
  have HF : Hid (fitsV 1 l x y n count groups raw = (decide ((0 : Int) ≤ 9) && plcV 9 1 x count && plcV 9 2 y count && (if bits .and .i64 9 4 = 0 then decide (n = 0) else numR 1 n groups raw) && (if bits .and .i64 9 8 = 0 then decide (l.length = 0) else setOk l raw))) := by
    refine Lib.hid ?_
    unfold fitsV
    rw [(show hasV 1 = 9 from rfl)]
  have HH : Hid (prog_has.f 9 1 = some (9)) := Lib.hid (by rw [has_f, (show hasV 1 = 9 from rfl)])
  have HC := Lib.hid h
  have HG := Lib.hid hg
  have hlen := h.2.1
  clear h hg
  go_enter Tryd.func62, Tryd.ntmps62
  go_wp2_with fail
  refine (prog_has.calls 9 _ (9) _ HH.out).mono ?_
  rintro e w1 ⟨rfl, nd, rfl⟩
  go_wp2_with fail
  refine (place_any _ 9 1 x count _ _ ?_ ?_).mono ?_
  rotate_left 2
  rintro e w2 ⟨rfl, nd2, rfl⟩
  by_cases p1 : plcV 9 1 x count = true
  case neg =>
    rw [show plcV 9 1 x count = false by simpa using p1]
    have P1 := Lib.hid p1
    clear p1
    go_wp2
    go_ret
    exact ⟨ret_bool (by rw [HF.out, show plcV 9 1 x count = false by simpa using P1.out]; simp), (by repeat' (first | exact Below.refl _ _ | (refine below_drewN ?_ _) | (refine Below.alloc ?_ ?_ _) | (refine below_set ?_ ?_) | (simp; done) | (simp; omega)))⟩
  rw [p1]
  have P1 := Lib.hid p1
  clear p1
  go_wp2_with fail
  refine (place_any _ 9 2 y count _ _ ?_ ?_).mono ?_
  rotate_left 2
  rintro e w3 ⟨rfl, nd3, rfl⟩
  by_cases p2 : plcV 9 2 y count = true
  case neg =>
    rw [show plcV 9 2 y count = false by simpa using p2]
    have P2 := Lib.hid p2
    clear p2
    go_wp2
    go_ret
    exact ⟨ret_bool (by rw [HF.out, show plcV 9 2 y count = false by simpa using P2.out]; simp), (by repeat' (first | exact Below.refl _ _ | (refine below_drewN ?_ _) | (refine Below.alloc ?_ ?_ _) | (refine below_set ?_ ?_) | (simp; done) | (simp; omega)))⟩
  rw [p2]
  have P2 := Lib.hid p2
  clear p2
  by_cases n0 : n = 0
  case neg =>
    have n0' : (n == 0) = false := by simp [n0]
    have N0 := Lib.hid n0
    clear n0
    go_wp2
    go_ret
    exact ⟨ret_bool (by rw [HF.out, P1.out, P2.out, if_pos (show bits .and .i64 9 4 = 0 from rfl), if_neg (show ¬ bits .and .i64 9 8 = 0 by decide)]; simp only [show decide ((0 : Int) ≤ 9) = true from rfl, Bool.true_and]; simp [N0.out]), (by repeat' (first | exact Below.refl _ _ | (refine below_drewN ?_ _) | (refine Below.alloc ?_ ?_ _) | (refine below_set ?_ ?_) | (simp; done) | (simp; omega)))⟩
  subst n0
  go_wp2_with fail
  refine (setsCheck_any _ (prs l) _ _ _ (Below.refl _ _) (Nat.le_refl _) (C_rngs (Kd.C_below HC.out (by repeat' (first | exact Below.refl _ _ | (refine below_drewN ?_ _) | (refine Below.alloc ?_ ?_ _) | (refine below_set ?_ ?_) | (simp; done) | (simp; omega)))) hc) (HG.out.up (by repeat' (first | exact Below.refl _ _ | (refine below_drewN ?_ _) | (refine Below.alloc ?_ ?_ _) | (refine below_set ?_ ?_) | (simp; done) | (simp; omega))) (by simp; try omega))).mono ?_
  rintro e w4 ⟨rfl, hb4⟩
  have hb5 := Below.trans (show Below w.heap.size w _ from (by repeat' (first | exact Below.refl _ _ | (refine below_drewN ?_ _) | (refine Below.alloc ?_ ?_ _) | (refine below_set ?_ ?_) | (simp; done) | (simp; omega)))) (hb4.mono (by simp; try omega))
  obtain ⟨hcl, hfz⟩ := bcell hb4
  have hzz := hb4.size
  simp at hzz
  clear hb4
  by_cases ck : chkAll (prs l) = true
  case neg =>
    have CK := Lib.hid ck
    rw [show errNo (chkAll (prs l)) = 1 by unfold errNo; rw [if_neg ck]]
    clear ck
    go_wp2
    go_ret
    exact ⟨ret_bool (by rw [HF.out, P1.out, P2.out, if_pos (show bits .and .i64 9 4 = 0 from rfl), if_neg (show ¬ bits .and .i64 9 8 = 0 by decide)]; simp only [show decide ((0 : Int) ≤ 9) = true from rfl, Bool.true_and]; unfold setOk; rw [show chkAll (prs l) = false by simpa using CK.out]; simp), hb5⟩
  have CK := Lib.hid ck
  rw [show errNo (chkAll (prs l)) = 0 by unfold errNo; rw [if_pos ck]]
  clear ck
  cases raw
  case false =>
    go_wp2
    go_ret
    exact ⟨ret_bool (by rw [HF.out, P1.out, P2.out, if_pos (show bits .and .i64 9 4 = 0 from rfl), if_neg (show ¬ bits .and .i64 9 8 = 0 by decide)]; simp only [show decide ((0 : Int) ≤ 9) = true from rfl, Bool.true_and]; unfold setOk; rw [CK.out]; simp), hb5⟩
  by_cases hl0 : l.length = 0
  case pos =>
    have hl1 : decide ((l.length : Int) - 1 < 0) = true := by simp; omega
    have hl2 : (l.length : Int) - 1 < 0 := by omega
    have HL0 := Lib.hid hl0
    clear hl0
    go_wp2
    go_ret
    exact ⟨ret_bool (by rw [HF.out, P1.out, P2.out, if_pos (show bits .and .i64 9 4 = 0 from rfl), if_neg (show ¬ bits .and .i64 9 8 = 0 by decide)]; simp only [show decide ((0 : Int) ≤ 9) = true from rfl, Bool.true_and]; unfold setOk; rw [CK.out]; simp [HL0.out]), hb5⟩
  obtain ⟨b, o, rfl, hcells⟩ := C_spot (Kd.C_below HC.out hb5) (by omega) (by decide)
  obtain ⟨cs, hK, hcs⟩ := hcells (l.length - 1) (by omega)
  obtain rfl := k96_open hK
  have c1 := hcs 1 _ rfl
  have er : l[l.length - 1] = rd_T96 l ((l.length : Int) - 1) := by
    unfold rd_T96
    rw [show ((l.length : Int) - 1).toNat = l.length - 1 by omega]
    simp [List.getD_eq_getElem?_getD, List.getElem?_eq_getElem (show l.length - 1 < l.length by omega)]
  rw [er] at c1
  clear hcs hK hcells er
  generalize hu : (rd_T96 l ((l.length : Int) - 1)).f1 = u at *
  have HU := Lib.hid hu
  have hl1 : decide ((l.length : Int) - 1 < 0) = false := by simp; omega
  have hl2 : 0 ≤ (l.length : Int) - 1 := by omega
  have hl3 : ((l.length : Int) - 1).toNat = l.length - 1 := by omega
  have HL0 := Lib.hid hl0
  clear hl0 hu
  have c2 : w4.cell? ⟨b, o + (l.length - 1) * 2 + 1, none⟩ = some (.int .i32 u) := c1
  clear c1
  go_wp2
  go_ret
  refine ⟨ret_bool ?_, hb5⟩
  rw [HF.out, P1.out, P2.out, if_pos (show bits .and .i64 9 4 = 0 from rfl), if_neg (show ¬ bits .and .i64 9 8 = 0 by decide)]; simp only [show decide ((0 : Int) ≤ 9) = true from rfl, Bool.true_and]
  unfold setOk
  rw [CK.out, HU.out, Bool.eq_iff_iff]
  simp [HL0.out]
  all_goals first | (go_simp; done) | (simp [go_sem]; done)
end PProgChecks
end Go.Proofs.YtmbboianghbjkaaDoor
