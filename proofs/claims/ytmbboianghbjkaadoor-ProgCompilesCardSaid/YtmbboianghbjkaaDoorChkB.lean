import Derived.Test.YtmbboianghbjkaaDoorChkA
namespace Go.Proofs.YtmbboianghbjkaaDoor
open Go.RowKit Go.Shelf
set_option linter.unusedVariables false
set_option linter.unusedSimpArgs false
attribute [local go_sem] bl_refl bl_alloc bl_a2 bl_a3 bl_a4 bl_a5 bl_set bl_drew bl_drewN le_add_r lt_add_r Go.Proofs.YtmbboianghbjkaaDoor.addr_add

set_option maxHeartbeats 4000000 in
theorem fits_bad (B : Nat) (w0 w : World) (A : Option Addr) (c : Nat) (l : List (Int × Int)) (op x y n count groups : Int) (raw : Bool) (hop : hasV op = (-1)) (hb : Below B w0 w) (hB : B ≤ w.heap.size) (h : Sl (RngAt B w0) 2 (.slice A l.length c) l) (hg : BandsAt B w0) :
    Calls Tryd.prog 62 #[.agg #[.int .i64 op, .slice A l.length c, .int .i64 x, .int .i64 y, .int .i64 n], .int .i64 count, .int .i64 groups, .bool raw] w fun e w' => e = .returned (.bool (fitsV op l x y n count groups raw)) ∧ Below w.heap.size w w' := by
  have HF : Hid (fitsV op l x y n count groups raw = (decide ((0 : Int) ≤ (-1)) && plcV (-1) 1 x count && plcV (-1) 2 y count && (if bits .and .i64 (-1) 4 = 0 then decide (n = 0) else numR op n groups raw) && (if bits .and .i64 (-1) 8 = 0 then decide (l.length = 0) else setOk l raw))) := by
    refine Lib.hid ?_
    unfold fitsV
    rw [hop]
  have HHV := Lib.hid hop
  have HC := Lib.hid h
  clear hop
  have HG := Lib.hid hg
  have hlen : l.length ≤ 9223372036854775807 := by obtain ⟨_, _, _, _, q, _⟩ := h; exact q
  clear h hg
  go_enter Tryd.func62, Tryd.ntmps62
  go_wp2_with fail
  refine (has_any _ _).mono ?_
  rintro e w1 ⟨rfl, nd, rfl⟩
  rw [HHV.out]
  go_wp2
  go_ret
  exact ⟨ret_bool (by rw [HF.out]; rfl), (by repeat' (first | exact Below.refl _ _ | (refine below_drewN ?_ _) | (refine Below.alloc ?_ ?_ _) | (refine below_set ?_ ?_) | (simp; done) | (simp; omega)))⟩
set_option maxHeartbeats 4000000 in
theorem fits_9 (B : Nat) (w0 w : World) (A : Option Addr) (c : Nat) (l : List (Int × Int)) (x y n count groups : Int) (raw : Bool) (hb : Below B w0 w) (hB : B ≤ w.heap.size) (h : Sl (RngAt B w0) 2 (.slice A l.length c) l) (hg : BandsAt B w0) :
    Calls Tryd.prog 62 #[.agg #[.int .i64 9, .slice A l.length c, .int .i64 x, .int .i64 y, .int .i64 n], .int .i64 count, .int .i64 groups, .bool raw] w fun e w' => e = .returned (.bool (fitsV 9 l x y n count groups raw)) ∧ Below w.heap.size w w' := by
  have HF : Hid (fitsV 9 l x y n count groups raw = (decide ((0 : Int) ≤ 1) && plcV 1 1 x count && plcV 1 2 y count && (if bits .and .i64 1 4 = 0 then decide (n = 0) else numR 9 n groups raw) && (if bits .and .i64 1 8 = 0 then decide (l.length = 0) else setOk l raw))) := by
    refine Lib.hid ?_
    unfold fitsV
    rw [(show hasV 9 = 1 from rfl)]
  have HHV := Lib.hid (show hasV 9 = 1 from rfl)
  have HC := Lib.hid h
  have HG := Lib.hid hg
  have hlen : l.length ≤ 9223372036854775807 := by obtain ⟨_, _, _, _, q, _⟩ := h; exact q
  clear h hg
  go_enter Tryd.func62, Tryd.ntmps62
  go_wp2_with fail
  refine (has_any _ _).mono ?_
  rintro e w1 ⟨rfl, nd, rfl⟩
  rw [HHV.out]
  go_wp2_with fail
  refine (place_any _ 1 1 x count _ _ ?_ ?_).mono ?_
  rotate_left 2
  rintro e w2 ⟨rfl, nd2, rfl⟩
  by_cases p1 : plcV 1 1 x count = true
  case neg =>
    rw [show plcV 1 1 x count = false by simpa using p1]
    have P1 := Lib.hid p1
    clear p1
    go_wp2
    go_ret
    exact ⟨ret_bool (by rw [HF.out, show plcV 1 1 x count = false by simpa using P1.out]; simp), (by repeat' (first | exact Below.refl _ _ | (refine below_drewN ?_ _) | (refine Below.alloc ?_ ?_ _) | (refine below_set ?_ ?_) | (simp; done) | (simp; omega)))⟩
  rw [p1]
  have P1 := Lib.hid p1
  clear p1
  go_wp2_with fail
  refine (place_any _ 1 2 y count _ _ ?_ ?_).mono ?_
  rotate_left 2
  rintro e w3 ⟨rfl, nd3, rfl⟩
  by_cases p2 : plcV 1 2 y count = true
  case neg =>
    rw [show plcV 1 2 y count = false by simpa using p2]
    have P2 := Lib.hid p2
    clear p2
    go_wp2
    go_ret
    exact ⟨ret_bool (by rw [HF.out, show plcV 1 2 y count = false by simpa using P2.out]; simp), (by repeat' (first | exact Below.refl _ _ | (refine below_drewN ?_ _) | (refine Below.alloc ?_ ?_ _) | (refine below_set ?_ ?_) | (simp; done) | (simp; omega)))⟩
  rw [p2]
  have P2 := Lib.hid p2
  clear p2
  by_cases n0 : n = 0
  case neg =>
    have n0' : (n == 0) = false := by simp [n0]
    have N0 := Lib.hid n0
    clear n0
    go_wp2
    go_ret
    exact ⟨ret_bool (by rw [HF.out, P1.out, P2.out, if_pos (show bits .and .i64 1 4 = 0 from rfl), if_pos (show bits .and .i64 1 8 = 0 from rfl)]; simp only [show decide ((0 : Int) ≤ 1) = true from rfl, Bool.true_and]; simp [N0.out]), (by repeat' (first | exact Below.refl _ _ | (refine below_drewN ?_ _) | (refine Below.alloc ?_ ?_ _) | (refine below_set ?_ ?_) | (simp; done) | (simp; omega)))⟩
  subst n0
  go_wp2
  go_ret
  refine ⟨ret_bool ?_, (by repeat' (first | exact Below.refl _ _ | (refine below_drewN ?_ _) | (refine Below.alloc ?_ ?_ _) | (refine below_set ?_ ?_) | (simp; done) | (simp; omega)))⟩
  rw [HF.out, P1.out, P2.out, if_pos (show bits .and .i64 1 4 = 0 from rfl), if_pos (show bits .and .i64 1 8 = 0 from rfl)]; simp only [show decide ((0 : Int) ≤ 1) = true from rfl, Bool.true_and]
  rw [Bool.eq_iff_iff]
  simp
  try omega
  all_goals first | (go_simp; done) | (simp [go_sem]; done)
set_option maxHeartbeats 4000000 in
theorem fits_0 (B : Nat) (w0 w : World) (A : Option Addr) (c : Nat) (l : List (Int × Int)) (op x y n count groups : Int) (raw : Bool) (hop : hasV op = 0) (hb : Below B w0 w) (hB : B ≤ w.heap.size) (h : Sl (RngAt B w0) 2 (.slice A l.length c) l) (hg : BandsAt B w0) :
    Calls Tryd.prog 62 #[.agg #[.int .i64 op, .slice A l.length c, .int .i64 x, .int .i64 y, .int .i64 n], .int .i64 count, .int .i64 groups, .bool raw] w fun e w' => e = .returned (.bool (fitsV op l x y n count groups raw)) ∧ Below w.heap.size w w' := by
  have HF : Hid (fitsV op l x y n count groups raw = (decide ((0 : Int) ≤ 0) && plcV 0 1 x count && plcV 0 2 y count && (if bits .and .i64 0 4 = 0 then decide (n = 0) else numR op n groups raw) && (if bits .and .i64 0 8 = 0 then decide (l.length = 0) else setOk l raw))) := by
    refine Lib.hid ?_
    unfold fitsV
    rw [hop]
  have HHV := Lib.hid hop
  have HC := Lib.hid h
  clear hop
  have HG := Lib.hid hg
  have hlen : l.length ≤ 9223372036854775807 := by obtain ⟨_, _, _, _, q, _⟩ := h; exact q
  clear h hg
  go_enter Tryd.func62, Tryd.ntmps62
  go_wp2_with fail
  refine (has_any _ _).mono ?_
  rintro e w1 ⟨rfl, nd, rfl⟩
  rw [HHV.out]
  go_wp2_with fail
  refine (place_any _ 0 1 x count _ _ ?_ ?_).mono ?_
  rotate_left 2
  rintro e w2 ⟨rfl, nd2, rfl⟩
  by_cases p1 : plcV 0 1 x count = true
  case neg =>
    rw [show plcV 0 1 x count = false by simpa using p1]
    have P1 := Lib.hid p1
    clear p1
    go_wp2
    go_ret
    exact ⟨ret_bool (by rw [HF.out, show plcV 0 1 x count = false by simpa using P1.out]; simp), (by repeat' (first | exact Below.refl _ _ | (refine below_drewN ?_ _) | (refine Below.alloc ?_ ?_ _) | (refine below_set ?_ ?_) | (simp; done) | (simp; omega)))⟩
  rw [p1]
  have P1 := Lib.hid p1
  clear p1
  go_wp2_with fail
  refine (place_any _ 0 2 y count _ _ ?_ ?_).mono ?_
  rotate_left 2
  rintro e w3 ⟨rfl, nd3, rfl⟩
  by_cases p2 : plcV 0 2 y count = true
  case neg =>
    rw [show plcV 0 2 y count = false by simpa using p2]
    have P2 := Lib.hid p2
    clear p2
    go_wp2
    go_ret
    exact ⟨ret_bool (by rw [HF.out, show plcV 0 2 y count = false by simpa using P2.out]; simp), (by repeat' (first | exact Below.refl _ _ | (refine below_drewN ?_ _) | (refine Below.alloc ?_ ?_ _) | (refine below_set ?_ ?_) | (simp; done) | (simp; omega)))⟩
  rw [p2]
  have P2 := Lib.hid p2
  clear p2
  by_cases n0 : n = 0
  case neg =>
    have n0' : (n == 0) = false := by simp [n0]
    have N0 := Lib.hid n0
    clear n0
    go_wp2
    go_ret
    exact ⟨ret_bool (by rw [HF.out, P1.out, P2.out, if_pos (show bits .and .i64 0 4 = 0 from rfl), if_pos (show bits .and .i64 0 8 = 0 from rfl)]; simp only [show decide ((0 : Int) ≤ 0) = true from rfl, Bool.true_and]; simp [N0.out]), (by repeat' (first | exact Below.refl _ _ | (refine below_drewN ?_ _) | (refine Below.alloc ?_ ?_ _) | (refine below_set ?_ ?_) | (simp; done) | (simp; omega)))⟩
  subst n0
  go_wp2
  go_ret
  refine ⟨ret_bool ?_, (by repeat' (first | exact Below.refl _ _ | (refine below_drewN ?_ _) | (refine Below.alloc ?_ ?_ _) | (refine below_set ?_ ?_) | (simp; done) | (simp; omega)))⟩
  rw [HF.out, P1.out, P2.out, if_pos (show bits .and .i64 0 4 = 0 from rfl), if_pos (show bits .and .i64 0 8 = 0 from rfl)]; simp only [show decide ((0 : Int) ≤ 0) = true from rfl, Bool.true_and]
  rw [Bool.eq_iff_iff]
  simp
  try omega
  all_goals first | (go_simp; done) | (simp [go_sem]; done)
set_option maxHeartbeats 4000000 in
theorem fits_2 (B : Nat) (w0 w : World) (A : Option Addr) (c : Nat) (l : List (Int × Int)) (x y n count groups : Int) (raw : Bool) (hb : Below B w0 w) (hB : B ≤ w.heap.size) (h : Sl (RngAt B w0) 2 (.slice A l.length c) l) (hg : BandsAt B w0) :
    Calls Tryd.prog 62 #[.agg #[.int .i64 2, .slice A l.length c, .int .i64 x, .int .i64 y, .int .i64 n], .int .i64 count, .int .i64 groups, .bool raw] w fun e w' => e = .returned (.bool (fitsV 2 l x y n count groups raw)) ∧ Below w.heap.size w w' := by
  have HF : Hid (fitsV 2 l x y n count groups raw = (decide ((0 : Int) ≤ 3) && plcV 3 1 x count && plcV 3 2 y count && (if bits .and .i64 3 4 = 0 then decide (n = 0) else numR 2 n groups raw) && (if bits .and .i64 3 8 = 0 then decide (l.length = 0) else setOk l raw))) := by
    refine Lib.hid ?_
    unfold fitsV
    rw [(show hasV 2 = 3 from rfl)]
  have HHV := Lib.hid (show hasV 2 = 3 from rfl)
  have HC := Lib.hid h
  have HG := Lib.hid hg
  have hlen : l.length ≤ 9223372036854775807 := by obtain ⟨_, _, _, _, q, _⟩ := h; exact q
  clear h hg
  go_enter Tryd.func62, Tryd.ntmps62
  go_wp2_with fail
  refine (has_any _ _).mono ?_
  rintro e w1 ⟨rfl, nd, rfl⟩
  rw [HHV.out]
  go_wp2_with fail
  refine (place_any _ 3 1 x count _ _ ?_ ?_).mono ?_
  rotate_left 2
  rintro e w2 ⟨rfl, nd2, rfl⟩
  by_cases p1 : plcV 3 1 x count = true
  case neg =>
    rw [show plcV 3 1 x count = false by simpa using p1]
    have P1 := Lib.hid p1
    clear p1
    go_wp2
    go_ret
    exact ⟨ret_bool (by rw [HF.out, show plcV 3 1 x count = false by simpa using P1.out]; simp), (by repeat' (first | exact Below.refl _ _ | (refine below_drewN ?_ _) | (refine Below.alloc ?_ ?_ _) | (refine below_set ?_ ?_) | (simp; done) | (simp; omega)))⟩
  rw [p1]
  have P1 := Lib.hid p1
  clear p1
  go_wp2_with fail
  refine (place_any _ 3 2 y count _ _ ?_ ?_).mono ?_
  rotate_left 2
  rintro e w3 ⟨rfl, nd3, rfl⟩
  by_cases p2 : plcV 3 2 y count = true
  case neg =>
    rw [show plcV 3 2 y count = false by simpa using p2]
    have P2 := Lib.hid p2
    clear p2
    go_wp2
    go_ret
    exact ⟨ret_bool (by rw [HF.out, show plcV 3 2 y count = false by simpa using P2.out]; simp), (by repeat' (first | exact Below.refl _ _ | (refine below_drewN ?_ _) | (refine Below.alloc ?_ ?_ _) | (refine below_set ?_ ?_) | (simp; done) | (simp; omega)))⟩
  rw [p2]
  have P2 := Lib.hid p2
  clear p2
  by_cases n0 : n = 0
  case neg =>
    have n0' : (n == 0) = false := by simp [n0]
    have N0 := Lib.hid n0
    clear n0
    go_wp2
    go_ret
    exact ⟨ret_bool (by rw [HF.out, P1.out, P2.out, if_pos (show bits .and .i64 3 4 = 0 from rfl), if_pos (show bits .and .i64 3 8 = 0 from rfl)]; simp only [show decide ((0 : Int) ≤ 3) = true from rfl, Bool.true_and]; simp [N0.out]), (by repeat' (first | exact Below.refl _ _ | (refine below_drewN ?_ _) | (refine Below.alloc ?_ ?_ _) | (refine below_set ?_ ?_) | (simp; done) | (simp; omega)))⟩
  subst n0
  go_wp2
  go_ret
  refine ⟨ret_bool ?_, (by repeat' (first | exact Below.refl _ _ | (refine below_drewN ?_ _) | (refine Below.alloc ?_ ?_ _) | (refine below_set ?_ ?_) | (simp; done) | (simp; omega)))⟩
  rw [HF.out, P1.out, P2.out, if_pos (show bits .and .i64 3 4 = 0 from rfl), if_pos (show bits .and .i64 3 8 = 0 from rfl)]; simp only [show decide ((0 : Int) ≤ 3) = true from rfl, Bool.true_and]
  rw [Bool.eq_iff_iff]
  simp
  try omega
  all_goals first | (go_simp; done) | (simp [go_sem]; done)
set_option maxHeartbeats 4000000 in
theorem fits_5 (B : Nat) (w0 w : World) (A : Option Addr) (c : Nat) (l : List (Int × Int)) (op x y n count groups : Int) (raw : Bool) (hop : hasV op = 5) (hb : Below B w0 w) (hB : B ≤ w.heap.size) (h : Sl (RngAt B w0) 2 (.slice A l.length c) l) (hg : BandsAt B w0) :
    Calls Tryd.prog 62 #[.agg #[.int .i64 op, .slice A l.length c, .int .i64 x, .int .i64 y, .int .i64 n], .int .i64 count, .int .i64 groups, .bool raw] w fun e w' => e = .returned (.bool (fitsV op l x y n count groups raw)) ∧ Below w.heap.size w w' := by
  have HF : Hid (fitsV op l x y n count groups raw = (decide ((0 : Int) ≤ 5) && plcV 5 1 x count && plcV 5 2 y count && (if bits .and .i64 5 4 = 0 then decide (n = 0) else numR op n groups raw) && (if bits .and .i64 5 8 = 0 then decide (l.length = 0) else setOk l raw))) := by
    refine Lib.hid ?_
    unfold fitsV
    rw [hop]
  have HHV := Lib.hid hop
  have HC := Lib.hid h
  clear hop
  have HG := Lib.hid hg
  have hlen : l.length ≤ 9223372036854775807 := by obtain ⟨_, _, _, _, q, _⟩ := h; exact q
  clear h hg
  go_enter Tryd.func62, Tryd.ntmps62
  go_wp2_with fail
  refine (has_any _ _).mono ?_
  rintro e w1 ⟨rfl, nd, rfl⟩
  rw [HHV.out]
  go_wp2_with fail
  refine (place_any _ 5 1 x count _ _ ?_ ?_).mono ?_
  rotate_left 2
  rintro e w2 ⟨rfl, nd2, rfl⟩
  by_cases p1 : plcV 5 1 x count = true
  case neg =>
    rw [show plcV 5 1 x count = false by simpa using p1]
    have P1 := Lib.hid p1
    clear p1
    go_wp2
    go_ret
    exact ⟨ret_bool (by rw [HF.out, show plcV 5 1 x count = false by simpa using P1.out]; simp), (by repeat' (first | exact Below.refl _ _ | (refine below_drewN ?_ _) | (refine Below.alloc ?_ ?_ _) | (refine below_set ?_ ?_) | (simp; done) | (simp; omega)))⟩
  rw [p1]
  have P1 := Lib.hid p1
  clear p1
  go_wp2_with fail
  refine (place_any _ 5 2 y count _ _ ?_ ?_).mono ?_
  rotate_left 2
  rintro e w3 ⟨rfl, nd3, rfl⟩
  by_cases p2 : plcV 5 2 y count = true
  case neg =>
    rw [show plcV 5 2 y count = false by simpa using p2]
    have P2 := Lib.hid p2
    clear p2
    go_wp2
    go_ret
    exact ⟨ret_bool (by rw [HF.out, show plcV 5 2 y count = false by simpa using P2.out]; simp), (by repeat' (first | exact Below.refl _ _ | (refine below_drewN ?_ _) | (refine Below.alloc ?_ ?_ _) | (refine below_set ?_ ?_) | (simp; done) | (simp; omega)))⟩
  rw [p2]
  have P2 := Lib.hid p2
  clear p2
  go_wp2_with fail
  refine (pnumber_any _ op x y n groups raw _).mono ?_
  rintro e w4 ⟨rfl, hb4⟩
  have hb5 := Below.trans (show Below w.heap.size w _ from (by repeat' (first | exact Below.refl _ _ | (refine below_drewN ?_ _) | (refine Below.alloc ?_ ?_ _) | (refine below_set ?_ ?_) | (simp; done) | (simp; omega)))) (hb4.mono (by simp; try omega))
  obtain ⟨hcl, hfz⟩ := bcell hb4
  have hzz := hb4.size
  simp at hzz
  clear hb4
  by_cases r : numR op n groups raw = true
  case neg =>
    rw [show numR op n groups raw = false by simpa using r]
    have R := Lib.hid r
    clear r
    go_wp2
    go_ret
    exact ⟨ret_bool (by rw [HF.out, P1.out, P2.out, if_neg (show ¬ bits .and .i64 5 4 = 0 by decide), if_pos (show bits .and .i64 5 8 = 0 from rfl)]; simp only [show decide ((0 : Int) ≤ 5) = true from rfl, Bool.true_and]; rw [show numR op n groups raw = false by simpa using R.out]; simp), hb5⟩
  rw [r]
  have R := Lib.hid r
  clear r
  go_wp2
  go_ret
  refine ⟨ret_bool ?_, hb5⟩
  rw [HF.out, P1.out, P2.out, if_neg (show ¬ bits .and .i64 5 4 = 0 by decide), if_pos (show bits .and .i64 5 8 = 0 from rfl)]; simp only [show decide ((0 : Int) ≤ 5) = true from rfl, Bool.true_and]
  rw [R.out, Bool.eq_iff_iff]
  simp
  try omega
  all_goals first | (go_simp; done) | (simp [go_sem]; done)
set_option maxHeartbeats 4000000 in
theorem fits_1 (B : Nat) (w0 w : World) (A : Option Addr) (c : Nat) (l : List (Int × Int)) (x y n count groups : Int) (raw : Bool) (hb : Below B w0 w) (hB : B ≤ w.heap.size) (h : Sl (RngAt B w0) 2 (.slice A l.length c) l) (hg : BandsAt B w0) :
    Calls Tryd.prog 62 #[.agg #[.int .i64 1, .slice A l.length c, .int .i64 x, .int .i64 y, .int .i64 n], .int .i64 count, .int .i64 groups, .bool raw] w fun e w' => e = .returned (.bool (fitsV 1 l x y n count groups raw)) ∧ Below w.heap.size w w' := by
  have HF : Hid (fitsV 1 l x y n count groups raw = (decide ((0 : Int) ≤ 9) && plcV 9 1 x count && plcV 9 2 y count && (if bits .and .i64 9 4 = 0 then decide (n = 0) else numR 1 n groups raw) && (if bits .and .i64 9 8 = 0 then decide (l.length = 0) else setOk l raw))) := by
    refine Lib.hid ?_
    unfold fitsV
    rw [(show hasV 1 = 9 from rfl)]
  have HHV := Lib.hid (show hasV 1 = 9 from rfl)
  have HC := Lib.hid h
  have HG := Lib.hid hg
  have hlen : l.length ≤ 9223372036854775807 := by obtain ⟨_, _, _, _, q, _⟩ := h; exact q
  clear h hg
  go_enter Tryd.func62, Tryd.ntmps62
  go_wp2_with fail
  refine (has_any _ _).mono ?_
  rintro e w1 ⟨rfl, nd, rfl⟩
  rw [HHV.out]
  go_wp2_with fail
  refine (place_any _ 9 1 x count _ _ ?_ ?_).mono ?_
  rotate_left 2
  rintro e w2 ⟨rfl, nd2, rfl⟩
  by_cases p1 : plcV 9 1 x count = true
  case neg =>
    rw [show plcV 9 1 x count = false by simpa using p1]
    have P1 := Lib.hid p1
    clear p1
    go_wp2
    go_ret
    exact ⟨ret_bool (by rw [HF.out, show plcV 9 1 x count = false by simpa using P1.out]; simp), (by repeat' (first | exact Below.refl _ _ | (refine below_drewN ?_ _) | (refine Below.alloc ?_ ?_ _) | (refine below_set ?_ ?_) | (simp; done) | (simp; omega)))⟩
  rw [p1]
  have P1 := Lib.hid p1
  clear p1
  go_wp2_with fail
  refine (place_any _ 9 2 y count _ _ ?_ ?_).mono ?_
  rotate_left 2
  rintro e w3 ⟨rfl, nd3, rfl⟩
  by_cases p2 : plcV 9 2 y count = true
  case neg =>
    rw [show plcV 9 2 y count = false by simpa using p2]
    have P2 := Lib.hid p2
    clear p2
    go_wp2
    go_ret
    exact ⟨ret_bool (by rw [HF.out, show plcV 9 2 y count = false by simpa using P2.out]; simp), (by repeat' (first | exact Below.refl _ _ | (refine below_drewN ?_ _) | (refine Below.alloc ?_ ?_ _) | (refine below_set ?_ ?_) | (simp; done) | (simp; omega)))⟩
  rw [p2]
  have P2 := Lib.hid p2
  clear p2
  by_cases n0 : n = 0
  case neg =>
    have n0' : (n == 0) = false := by simp [n0]
    have N0 := Lib.hid n0
    clear n0
    go_wp2
    go_ret
    exact ⟨ret_bool (by rw [HF.out, P1.out, P2.out, if_pos (show bits .and .i64 9 4 = 0 from rfl), if_neg (show ¬ bits .and .i64 9 8 = 0 by decide)]; simp only [show decide ((0 : Int) ≤ 9) = true from rfl, Bool.true_and]; simp [N0.out]), (by repeat' (first | exact Below.refl _ _ | (refine below_drewN ?_ _) | (refine Below.alloc ?_ ?_ _) | (refine below_set ?_ ?_) | (simp; done) | (simp; omega)))⟩
  subst n0
  go_wp2_with fail
  refine (setsCheck_any B l _ w0 _ (hb.trans (Below.mono (B := w.heap.size) (by repeat' (first | exact Below.refl _ _ | (refine below_drewN ?_ _) | (refine Below.alloc ?_ ?_ _) | (refine below_set ?_ ?_) | (simp; done) | (simp; omega))) hB)) (by simp; try omega) HC.out HG.out).mono ?_
  rintro e w4 ⟨rfl, hb4⟩
  have hb5 := Below.trans (show Below w.heap.size w _ from (by repeat' (first | exact Below.refl _ _ | (refine below_drewN ?_ _) | (refine Below.alloc ?_ ?_ _) | (refine below_set ?_ ?_) | (simp; done) | (simp; omega)))) (hb4.mono (by simp; try omega))
  obtain ⟨hcl, hfz⟩ := bcell hb4
  have hzz := hb4.size
  simp at hzz
  clear hb4
  by_cases ck : chkAll l = true
  case neg =>
    have CK := Lib.hid ck
    rw [show errNo (chkAll l) = 1 by unfold errNo; rw [if_neg ck]]
    clear ck
    go_wp2
    go_ret
    exact ⟨ret_bool (by rw [HF.out, P1.out, P2.out, if_pos (show bits .and .i64 9 4 = 0 from rfl), if_neg (show ¬ bits .and .i64 9 8 = 0 by decide)]; simp only [show decide ((0 : Int) ≤ 9) = true from rfl, Bool.true_and]; unfold setOk; rw [show chkAll l = false by simpa using CK.out]; simp), hb5⟩
  have CK := Lib.hid ck
  rw [show errNo (chkAll l) = 0 by unfold errNo; rw [if_pos ck]]
  clear ck
  cases raw
  case false =>
    go_wp2
    go_ret
    exact ⟨ret_bool (by rw [HF.out, P1.out, P2.out, if_pos (show bits .and .i64 9 4 = 0 from rfl), if_neg (show ¬ bits .and .i64 9 8 = 0 by decide)]; simp only [show decide ((0 : Int) ≤ 9) = true from rfl, Bool.true_and]; unfold setOk; rw [CK.out]; simp), hb5⟩
  by_cases hl0 : l.length = 0
  case pos =>
    have hl1 : decide ((l.length : Int) - 1 < 0) = true := by simp; omega
    have hl2 : (l.length : Int) - 1 < 0 := by omega
    have HL0 := Lib.hid hl0
    clear hl0
    go_wp2
    go_ret
    exact ⟨ret_bool (by rw [HF.out, P1.out, P2.out, if_pos (show bits .and .i64 9 4 = 0 from rfl), if_neg (show ¬ bits .and .i64 9 8 = 0 by decide)]; simp only [show decide ((0 : Int) ≤ 9) = true from rfl, Bool.true_and]; unfold setOk; rw [CK.out]; simp [HL0.out]), hb5⟩
  obtain ⟨A', c', e', _, _, hcells⟩ := HC.out
  cases e'
  obtain ⟨b, o, rfl, hR⟩ := hcells (by omega)
  have c2 : w4.cell? ⟨b, o + (l.length - 1) * 2 + 1, none⟩ = some (.int .i32 (l[l.length - 1]'(by omega)).2) := (hR (l.length - 1) (by omega)).hi w4 (hb.trans (hb5.mono hB))
  rw [getD_at l (l.length - 1) (0, 0) (by omega)] at c2
  clear hR hcells
  generalize hu : (l.getD (l.length - 1) (0, 0)).2 = u at *
  have HU := Lib.hid hu
  have hl1 : decide ((l.length : Int) - 1 < 0) = false := by simp; omega
  have hl2 : 0 ≤ (l.length : Int) - 1 := by omega
  have hl3 : ((l.length : Int) - 1).toNat = l.length - 1 := by omega
  have HL0 := Lib.hid hl0
  clear hl0 hu
  go_wp2
  go_ret
  refine ⟨ret_bool ?_, hb5⟩
  rw [HF.out, P1.out, P2.out, if_pos (show bits .and .i64 9 4 = 0 from rfl), if_neg (show ¬ bits .and .i64 9 8 = 0 by decide)]; simp only [show decide ((0 : Int) ≤ 9) = true from rfl, Bool.true_and]
  unfold setOk
  rw [CK.out, HU.out, Bool.eq_iff_iff]
  simp [HL0.out]
  all_goals first | (go_simp; done) | (simp [go_sem]; done)
end Go.Proofs.YtmbboianghbjkaaDoor
