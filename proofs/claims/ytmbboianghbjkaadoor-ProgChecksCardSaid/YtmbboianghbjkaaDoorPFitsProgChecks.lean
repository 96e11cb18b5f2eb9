import Derived.Test.YtmbboianghbjkaaDoorPNamedProgChecks
namespace Go.Proofs.YtmbboianghbjkaaDoor
namespace PProgChecks
open Go.RowKit Go.Shelf Go.Proofs.YtmbboianghbjkaaDoorW.PrintWords Go.Proofs.YtmbboianghbjkaaDoorW.PrintLast Go.Proofs.YtmbboianghbjkaaDoorW.PrintMore
set_option linter.unusedVariables false
set_option linter.unusedSimpArgs false
attribute [local go_sem] bl_refl bl_alloc bl_a2 bl_a3 bl_a4 bl_a5 bl_set bl_drew bl_drewN le_add_r lt_add_r Go.Proofs.YtmbboianghbjkaaDoor.addr_add

def hasV (op : Int) : Int := if op = 1 then 9 else if op = 2 then 3 else if op = 3 ∨ op = 4 ∨ op = 5 ∨ op = 6 then 5 else if op = 9 then 1 else if op = 7 ∨ op = 8 then 0 else -1
def numR (op n groups : Int) (raw : Bool) : Bool :=
  if op = 3 then decide (2 ≤ n) && decide (n ≤ wrap64 (wrap64 (2 * groups) + 1)) else if op = 4 then decide (1 ≤ n) && (decide (n ≤ 6) || (raw && decide (n ≤ 8))) else decide (0 ≤ n) && decide (n ≤ 63)
def setOk (l : List S96) (raw : Bool) : Bool := chkAll (prs l) && (!raw || decide (l.length = 0) || decide ((rd_T96 l ((l.length : Int) - 1)).f1 ≤ 255))
def fitsV (op : Int) (l : List S96) (x y n count groups : Int) (raw : Bool) : Bool :=
  decide (0 ≤ hasV op) && plcV (hasV op) 1 x count && plcV (hasV op) 2 y count && (if bits .and .i64 (hasV op) 4 = 0 then decide (n = 0) else numR op n groups raw) && (if bits .and .i64 (hasV op) 8 = 0 then decide (l.length = 0) else setOk l raw)
theorem has_f (op : Int) : prog_has.f 9 op = some (hasV op) := by
  unfold prog_has.f hasV
  simp only [prog_has.j0]
  repeat' split
  all_goals first | rfl | (exfalso; simp at *; omega) | (simp at *; omega)
theorem number_f (op : Int) (l : List S96) (x y n g : Int) (raw : Bool) : prog_number.f op l x y n g raw = some (numR op n g raw) := by
  unfold prog_number.f numR
  repeat' split
  all_goals
    congr 1
    rw [Bool.eq_iff_iff]
    simp
    try simp_all
    try omega
set_option maxHeartbeats 4000000 in
theorem fits_bad (w : World) (A : Option Addr) (c : Nat) (l : List S96) (op x y n count groups : Int) (raw : Bool) (hop : hasV op = (-1)) (h : Kd.C k96 w A l.length l) (hc : l.length ≤ c) (hg : BandsAt w.heap.size w) :
    Calls Tryd.prog 62 #[.agg #[.int .i64 op, .slice A l.length c, .int .i64 x, .int .i64 y, .int .i64 n], .int .i64 count, .int .i64 groups, .bool raw] w fun e w' => e = .returned (.bool (fitsV op l x y n count groups raw)) ∧ Below w.heap.size w w' := by
  have HF : Hid (fitsV op l x y n count groups raw = (decide ((0 : Int) ≤ (-1)) && plcV (-1) 1 x count && plcV (-1) 2 y count && (if bits .and .i64 (-1) 4 = 0 then decide (n = 0) else numR op n groups raw) && (if bits .and .i64 (-1) 8 = 0 then decide (l.length = 0) else setOk l raw))) := by
    refine Lib.hid ?_
    unfold fitsV
    rw [hop]
  have HH : Hid (prog_has.f 9 op = some ((-1))) := Lib.hid (by rw [has_f, hop])
  clear hop
  have HC := Lib.hid h
  have HG := Lib.hid hg
  have hlen := h.2.1
  clear h hg
  go_enter Tryd.func62, Tryd.ntmps62
  go_wp2_with fail
  refine (prog_has.calls 9 _ ((-1)) _ HH.out).mono ?_
  rintro e w1 ⟨rfl, nd, rfl⟩
  go_wp2
  go_ret
  exact ⟨ret_bool (by rw [HF.out]; rfl), (by repeat' (first | exact Below.refl _ _ | (refine below_drewN ?_ _) | (refine Below.alloc ?_ ?_ _) | (refine below_set ?_ ?_) | (simp; done) | (simp; omega)))⟩
set_option maxHeartbeats 4000000 in
theorem fits_9 (w : World) (A : Option Addr) (c : Nat) (l : List S96) (x y n count groups : Int) (raw : Bool) (h : Kd.C k96 w A l.length l) (hc : l.length ≤ c) (hg : BandsAt w.heap.size w) :
    Calls Tryd.prog 62 #[.agg #[.int .i64 9, .slice A l.length c, .int .i64 x, .int .i64 y, .int .i64 n], .int .i64 count, .int .i64 groups, .bool raw] w fun e w' => e = .returned (.bool (fitsV 9 l x y n count groups raw)) ∧ Below w.heap.size w w' := by
  have HF : Hid (fitsV 9 l x y n count groups raw = (decide ((0 : Int) ≤ 1) && plcV 1 1 x count && plcV 1 2 y count && (if bits .and .i64 1 4 = 0 then decide (n = 0) else numR 9 n groups raw) && (if bits .and .i64 1 8 = 0 then decide (l.length = 0) else setOk l raw))) := by
    refine Lib.hid ?_
    unfold fitsV
    rw [(show hasV 9 = 1 from rfl)]
  have HH : Hid (prog_has.f 9 9 = some (1)) := Lib.hid (by rw [has_f, (show hasV 9 = 1 from rfl)])
  have HC := Lib.hid h
  have HG := Lib.hid hg
  have hlen := h.2.1
  clear h hg
  go_enter Tryd.func62, Tryd.ntmps62
  go_wp2_with fail
  refine (prog_has.calls 9 _ (1) _ HH.out).mono ?_
  rintro e w1 ⟨rfl, nd, rfl⟩
  go_wp2_with fail
  refine (place_any _ 1 1 x count _ _ ?_ ?_).mono ?_
  rotate_left 2
  rintro e w2 ⟨rfl, nd2, rfl⟩
  by_cases p1 : plcV 1 1 x count = true
  case neg =>
    rw [show plcV 1 1 x count = false by simpa using p1]
    have P1 := Lib.hid p1
    clear p1
    go_wp2
    go_ret
    exact ⟨ret_bool (by rw [HF.out, show plcV 1 1 x count = false by simpa using P1.out]; simp), (by repeat' (first | exact Below.refl _ _ | (refine below_drewN ?_ _) | (refine Below.alloc ?_ ?_ _) | (refine below_set ?_ ?_) | (simp; done) | (simp; omega)))⟩
  rw [p1]
  have P1 := Lib.hid p1
  clear p1
  go_wp2_with fail
  refine (place_any _ 1 2 y count _ _ ?_ ?_).mono ?_
  rotate_left 2
  rintro e w3 ⟨rfl, nd3, rfl⟩
  by_cases p2 : plcV 1 2 y count = true
  case neg =>
    rw [show plcV 1 2 y count = false by simpa using p2]
    have P2 := Lib.hid p2
    clear p2
    go_wp2
    go_ret
    exact ⟨ret_bool (by rw [HF.out, show plcV 1 2 y count = false by simpa using P2.out]; simp), (by repeat' (first | exact Below.refl _ _ | (refine below_drewN ?_ _) | (refine Below.alloc ?_ ?_ _) | (refine below_set ?_ ?_) | (simp; done) | (simp; omega)))⟩
  rw [p2]
  have P2 := Lib.hid p2
  clear p2
  by_cases n0 : n = 0
  case neg =>
    have n0' : (n == 0) = false := by simp [n0]
    have N0 := Lib.hid n0
    clear n0
    go_wp2
    go_ret
    exact ⟨ret_bool (by rw [HF.out, P1.out, P2.out, if_pos (show bits .and .i64 1 4 = 0 from rfl), if_pos (show bits .and .i64 1 8 = 0 from rfl)]; simp only [show decide ((0 : Int) ≤ 1) = true from rfl, Bool.true_and]; simp [N0.out]), (by repeat' (first | exact Below.refl _ _ | (refine below_drewN ?_ _) | (refine Below.alloc ?_ ?_ _) | (refine below_set ?_ ?_) | (simp; done) | (simp; omega)))⟩
  subst n0
  go_wp2
  go_ret
  refine ⟨ret_bool ?_, (by repeat' (first | exact Below.refl _ _ | (refine below_drewN ?_ _) | (refine Below.alloc ?_ ?_ _) | (refine below_set ?_ ?_) | (simp; done) | (simp; omega)))⟩
  rw [HF.out, P1.out, P2.out, if_pos (show bits .and .i64 1 4 = 0 from rfl), if_pos (show bits .and .i64 1 8 = 0 from rfl)]; simp only [show decide ((0 : Int) ≤ 1) = true from rfl, Bool.true_and]
  rw [Bool.eq_iff_iff]
  simp
  try omega
  all_goals first | (go_simp; done) | (simp [go_sem]; done)
set_option maxHeartbeats 4000000 in
theorem fits_0 (w : World) (A : Option Addr) (c : Nat) (l : List S96) (op x y n count groups : Int) (raw : Bool) (hop : hasV op = 0) (h : Kd.C k96 w A l.length l) (hc : l.length ≤ c) (hg : BandsAt w.heap.size w) :
    Calls Tryd.prog 62 #[.agg #[.int .i64 op, .slice A l.length c, .int .i64 x, .int .i64 y, .int .i64 n], .int .i64 count, .int .i64 groups, .bool raw] w fun e w' => e = .returned (.bool (fitsV op l x y n count groups raw)) ∧ Below w.heap.size w w' := by
  have HF : Hid (fitsV op l x y n count groups raw = (decide ((0 : Int) ≤ 0) && plcV 0 1 x count && plcV 0 2 y count && (if bits .and .i64 0 4 = 0 then decide (n = 0) else numR op n groups raw) && (if bits .and .i64 0 8 = 0 then decide (l.length = 0) else setOk l raw))) := by
    refine Lib.hid ?_
    unfold fitsV
    rw [hop]
  have HH : Hid (prog_has.f 9 op = some (0)) := Lib.hid (by rw [has_f, hop])
  clear hop
  have HC := Lib.hid h
  have HG := Lib.hid hg
  have hlen := h.2.1
  clear h hg
  go_enter Tryd.func62, Tryd.ntmps62
  go_wp2_with fail
  refine (prog_has.calls 9 _ (0) _ HH.out).mono ?_
  rintro e w1 ⟨rfl, nd, rfl⟩
  go_wp2_with fail
  refine (place_any _ 0 1 x count _ _ ?_ ?_).mono ?_
  rotate_left 2
  rintro e w2 ⟨rfl, nd2, rfl⟩
  by_cases p1 : plcV 0 1 x count = true
  case neg =>
    rw [show plcV 0 1 x count = false by simpa using p1]
    have P1 := Lib.hid p1
    clear p1
    go_wp2
    go_ret
    exact ⟨ret_bool (by rw [HF.out, show plcV 0 1 x count = false by simpa using P1.out]; simp), (by repeat' (first | exact Below.refl _ _ | (refine below_drewN ?_ _) | (refine Below.alloc ?_ ?_ _) | (refine below_set ?_ ?_) | (simp; done) | (simp; omega)))⟩
  rw [p1]
  have P1 := Lib.hid p1
  clear p1
  go_wp2_with fail
  refine (place_any _ 0 2 y count _ _ ?_ ?_).mono ?_
  rotate_left 2
  rintro e w3 ⟨rfl, nd3, rfl⟩
  by_cases p2 : plcV 0 2 y count = true
  case neg =>
    rw [show plcV 0 2 y count = false by simpa using p2]
    have P2 := Lib.hid p2
    clear p2
    go_wp2
    go_ret
    exact ⟨ret_bool (by rw [HF.out, show plcV 0 2 y count = false by simpa using P2.out]; simp), (by repeat' (first | exact Below.refl _ _ | (refine below_drewN ?_ _) | (refine Below.alloc ?_ ?_ _) | (refine below_set ?_ ?_) | (simp; done) | (simp; omega)))⟩
  rw [p2]
  have P2 := Lib.hid p2
  clear p2
  by_cases n0 : n = 0
  case neg =>
    have n0' : (n == 0) = false := by simp [n0]
    have N0 := Lib.hid n0
    clear n0
    go_wp2
    go_ret
    exact ⟨ret_bool (by rw [HF.out, P1.out, P2.out, if_pos (show bits .and .i64 0 4 = 0 from rfl), if_pos (show bits .and .i64 0 8 = 0 from rfl)]; simp only [show decide ((0 : Int) ≤ 0) = true from rfl, Bool.true_and]; simp [N0.out]), (by repeat' (first | exact Below.refl _ _ | (refine below_drewN ?_ _) | (refine Below.alloc ?_ ?_ _) | (refine below_set ?_ ?_) | (simp; done) | (simp; omega)))⟩
  subst n0
  go_wp2
  go_ret
  refine ⟨ret_bool ?_, (by repeat' (first | exact Below.refl _ _ | (refine below_drewN ?_ _) | (refine Below.alloc ?_ ?_ _) | (refine below_set ?_ ?_) | (simp; done) | (simp; omega)))⟩
  rw [HF.out, P1.out, P2.out, if_pos (show bits .and .i64 0 4 = 0 from rfl), if_pos (show bits .and .i64 0 8 = 0 from rfl)]; simp only [show decide ((0 : Int) ≤ 0) = true from rfl, Bool.true_and]
  rw [Bool.eq_iff_iff]
  simp
  try omega
  all_goals first | (go_simp; done) | (simp [go_sem]; done)
end PProgChecks
end Go.Proofs.YtmbboianghbjkaaDoor
