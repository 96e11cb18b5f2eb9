import Derived.Test.YtmbboianghbjkaaDoorRefD
namespace Go.Proofs.YtmbboianghbjkaaDoor
open Go.RowKit Go.Shelf
set_option linter.unusedVariables false
set_option linter.unusedSimpArgs false
attribute [local go_sem] bl_refl bl_alloc bl_a2 bl_a3 bl_a4 bl_a5 bl_set bl_drew bl_drewN le_add_r lt_add_r Go.Proofs.YtmbboianghbjkaaDoor.addr_add

/-- fits, spelt out. -/
def fitsW (op : Int) (L : Nat) (so : Bool) (x y n count groups : Int) (raw : Bool) : Bool :=
  if op = 1 then decide (0 ≤ x) && decide (x < count) && decide (y = 0) && decide (n = 0) && so
  else if op = 2 then decide (0 ≤ x) && decide (x < count) && decide (0 ≤ y) && decide (y < count) && decide (n = 0) && decide (L = 0)
  else if op = 3 ∨ op = 4 ∨ op = 5 ∨ op = 6 then decide (0 ≤ x) && decide (x < count) && decide (y = 0) && numR op n groups raw && decide (L = 0)
  else if op = 9 then decide (0 ≤ x) && decide (x < count) && decide (y = 0) && decide (n = 0) && decide (L = 0)
  else if op = 7 ∨ op = 8 then decide (x = 0) && decide (y = 0) && decide (n = 0) && decide (L = 0) else false
theorem fitsV_eq (op : Int) (l : List (Int × Int)) (x y n count groups : Int) (raw : Bool) : fitsV op l x y n count groups raw = fitsW op l.length (setOk l raw) x y n count groups raw := by
  have b1 : bits .and .i64 9 1 = 1 := rfl
  have b2 : bits .and .i64 9 2 = 0 := rfl
  have b3 : bits .and .i64 9 4 = 0 := rfl
  have b4 : bits .and .i64 9 8 = 8 := rfl
  have b5 : bits .and .i64 3 1 = 1 := rfl
  have b6 : bits .and .i64 3 2 = 2 := rfl
  have b7 : bits .and .i64 3 4 = 0 := rfl
  have b8 : bits .and .i64 3 8 = 0 := rfl
  have b9 : bits .and .i64 5 1 = 1 := rfl
  have b10 : bits .and .i64 5 2 = 0 := rfl
  have b11 : bits .and .i64 5 4 = 4 := rfl
  have b12 : bits .and .i64 5 8 = 0 := rfl
  have b13 : bits .and .i64 1 1 = 1 := rfl
  have b14 : bits .and .i64 1 2 = 0 := rfl
  have b15 : bits .and .i64 1 4 = 0 := rfl
  have b16 : bits .and .i64 1 8 = 0 := rfl
  have b17 : bits .and .i64 0 1 = 0 := rfl
  have b18 : bits .and .i64 0 2 = 0 := rfl
  have b19 : bits .and .i64 0 4 = 0 := rfl
  have b20 : bits .and .i64 0 8 = 0 := rfl
  unfold fitsV fitsW plcV
  by_cases h1 : op = 1
  · have hv : hasV op = 9 := by unfold hasV; rw [if_pos h1]
    rw [hv, b1, b2, b3, b4, if_pos h1, if_neg (show ¬ (1 : Int) = 0 by decide), if_pos rfl, if_pos rfl, if_neg (show ¬ (8 : Int) = 0 by decide)]
    simp [Bool.and_assoc]
  by_cases h2 : op = 2
  · have hv : hasV op = 3 := by unfold hasV; rw [if_neg h1, if_pos h2]
    rw [hv, b5, b6, b7, b8, if_neg h1, if_pos h2, if_neg (show ¬ (1 : Int) = 0 by decide), if_neg (show ¬ (2 : Int) = 0 by decide), if_pos rfl, if_pos rfl]
    simp [Bool.and_assoc]
  by_cases h3 : op = 3 ∨ op = 4 ∨ op = 5 ∨ op = 6
  · have hv : hasV op = 5 := by unfold hasV; rw [if_neg h1, if_neg h2, if_pos h3]
    rw [hv, b9, b10, b11, b12, if_neg h1, if_neg h2, if_pos h3, if_neg (show ¬ (1 : Int) = 0 by decide), if_pos rfl, if_neg (show ¬ (4 : Int) = 0 by decide), if_pos rfl]
    simp [Bool.and_assoc]
  by_cases h9 : op = 9
  · have hv : hasV op = 1 := by unfold hasV; rw [if_neg h1, if_neg h2, if_neg h3, if_pos h9]
    rw [hv, b13, b14, b15, b16, if_neg h1, if_neg h2, if_neg h3, if_pos h9, if_neg (show ¬ (1 : Int) = 0 by decide), if_pos rfl, if_pos rfl, if_pos rfl]
    simp [Bool.and_assoc]
  by_cases h7 : op = 7 ∨ op = 8
  · have hv : hasV op = 0 := by unfold hasV; rw [if_neg h1, if_neg h2, if_neg h3, if_neg h9, if_pos h7]
    rw [hv, b17, b18, b19, b20, if_neg h1, if_neg h2, if_neg h3, if_neg h9, if_pos h7, if_pos rfl, if_pos rfl, if_pos rfl, if_pos rfl]
    simp [Bool.and_assoc]
  · have hv : hasV op = -1 := by unfold hasV; rw [if_neg h1, if_neg h2, if_neg h3, if_neg h9, if_neg h7]
    rw [hv, if_neg h1, if_neg h2, if_neg h3, if_neg h9, if_neg h7]
    simp
theorem rwithin_any (n lo hi : Int) (w : World) : Calls Tryd.prog 85 #[.int .i64 n, .int .i64 lo, .int .i64 hi] w fun e w' => e = .returned (.bool (decide (lo ≤ n) && decide (n ≤ hi))) ∧ w' = w := by
  go_enter Tryd.func85, Tryd.ntmps85
  go_wp2
  all_goals
    go_ret
    refine ⟨ret_bool ?_, rfl⟩
    rw [Bool.eq_iff_iff]
    simp
    try omega
set_option maxHeartbeats 4000000 in
theorem rinst_any (B : Nat) (w0 w : World) (A : Option Addr) (c : Nat) (l : List (Int × Int)) (op x y n : Int) (count g : Nat) (raw : Bool) (hcount : count ≤ 20000) (hgr : g ≤ 40) (hb : Below B w0 w) (hB : B ≤ w.heap.size) (h : Sl (RngAt B w0) 2 (.slice A l.length c) l) (hr : rngsOk' l) :
    Calls Tryd.prog 48 #[.agg #[.int .i64 op, .slice A l.length c, .int .i64 x, .int .i64 y, .int .i64 n], .int .i64 count, .int .i64 g, .bool raw] w fun e w' => e = .returned (.bool (fitsV op l x y n count g raw)) ∧ Below w.heap.size w w' := by
  rw [fitsV_eq]
  have hlen : l.length ≤ 9223372036854775807 := by obtain ⟨_, _, _, _, q, _⟩ := h; exact q
  have hct : (count : Int) ≤ 20000 := by omega
  have hgt : (g : Int) ≤ 40 := by omega
  clear hcount hgr
  by_cases h1 : op = 1
  · subst h1
    have HS := Lib.hid (fun W hb1 hB1 => rfits_any B w0 W A c l raw hb1 hB1 h hr)
    clear h hr
    have HF : Hid (fitsW 1 l.length (setOk l raw) x y n count g raw = (decide (0 ≤ x) && decide (x < count) && decide (y = 0) && decide (n = 0) && setOk l raw)) := Lib.hid (by unfold fitsW; rw [if_pos rfl])
    by_cases a1 : 0 ≤ x ∧ x < count ∧ y = 0 ∧ n = 0
    · obtain ⟨g1, g2, rfl, rfl⟩ := a1
      have gw : (decide (0 ≤ x) && decide (x ≤ (count : Int) - 1)) = true := by simp; omega
      have gx : (decide (0 ≤ x) && decide (x < (count : Int))) = true := by simp; omega
      have GX := Lib.hid gx
      clear gx
      cases raw
      all_goals
        go_enter Tryd.func48, Tryd.ntmps48
        go_wp2_with (go_at_call 85; refine (rwithin_any _ _ _ _).mono ?_; rintro e w' ⟨rfl, rfl⟩; rw [gw])
        go_wp2_with fail
        refine (HS.out _ ?_ ?_).mono ?_
        rotate_left 2
        rintro e w1 ⟨rfl, hb1⟩
        have hbe := Below.trans (show Below w.heap.size w _ from (by repeat' (first | exact Below.refl _ _ | (refine below_drewN ?_ _) | (refine Below.drew ?_) | (refine Below.alloc ?_ ?_ _) | (refine below_set ?_ ?_) | (simp; done) | (simp; omega)))) (hb1.mono (by simp; try omega))
        clear hb1
        go_wp2
        go_ret
        exact ⟨ret_bool (by rw [HF.out, GX.out]; simp), hbe⟩
        all_goals first | exact hb.alloc hB _ | (simp; omega)
    · have HA := Lib.hid a1
      clear a1
      have HF0 : Hid (fitsW 1 l.length (setOk l raw) x y n count g raw = false) := Lib.hid (by
        rw [HF.out]
        have := HA.out
        generalize setOk l raw = so
        cases so <;> simp at this ⊢ <;> omega)
      clear HF
      cases raw
      all_goals
        go_enter Tryd.func48, Tryd.ntmps48
        go_wp2_with (go_at_call 85; refine (rwithin_any _ _ _ _).mono ?_; rintro e w' ⟨rfl, rfl⟩)
        all_goals first
          | (go_ret; exact ⟨ret_bool HF0.out.symm, (by repeat' (first | exact Below.refl _ _ | (refine below_drewN ?_ _) | (refine Below.drew ?_) | (refine Below.alloc ?_ ?_ _) | (refine below_set ?_ ?_) | (simp; done) | (simp; omega)))⟩)
          | (exfalso; have := HA.out; simp only [beq_iff_eq, beq_eq_false_iff_ne, bne_iff_ne, ne_eq, Bool.not_eq_true, bne_eq_false_iff_eq, Bool.and_eq_true, decide_eq_true_eq] at *; omega)
  · have q1 : (op == 1) = false := by simp [h1]
    have q1' : (op != 1) = true := by simp [h1]
    have H1 := Lib.hid h1
    clear h1 h hr
    generalize setOk l raw = so
    by_cases h9 : 2 ≤ op ∧ op ≤ 9
    · obtain ⟨u1, u2⟩ := h9
      rcases (show op = 2 ∨ op = 3 ∨ op = 4 ∨ op = 5 ∨ op = 6 ∨ op = 7 ∨ op = 8 ∨ op = 9 by omega) with rfl | rfl | rfl | rfl | rfl | rfl | rfl | rfl
      all_goals
        cases raw
        all_goals
          clear u1 u2 q1 q1' H1
          go_enter Tryd.func48, Tryd.ntmps48
          go_wp2_with (go_at_call 85; refine (rwithin_any _ _ _ _).mono ?_; rintro e w' ⟨rfl, rfl⟩)
          all_goals
            go_ret
            refine ⟨ret_bool ?_, (by repeat' (first | exact Below.refl _ _ | (refine below_drewN ?_ _) | (refine Below.drew ?_) | (refine Below.alloc ?_ ?_ _) | (refine below_set ?_ ?_) | (simp; done) | (simp; omega)))⟩
            clear hlen
            generalize l.length = L at *
            rw [Bool.eq_iff_iff]
            try simp only [beq_iff_eq, beq_eq_false_iff_ne, bne_iff_ne, ne_eq, bne_eq_false_iff_eq, Bool.and_eq_true, Bool.and_eq_false_iff, decide_eq_true_eq, decide_eq_false_iff_not] at *
            simp [fitsW, numR, wrap64, *]
            try omega
    · have HO : Hid (fitsW op l.length so x y n count g raw = false) := Lib.hid (by
        have := H1.out
        unfold fitsW
        rw [if_neg (by omega), if_neg (by omega), if_neg (by omega), if_neg (by omega), if_neg (by omega)])
      have n2 : (op == 2) = false := by simp; omega
      have n3 : (op == 3) = false := by simp; omega
      have n4 : (op == 4) = false := by simp; omega
      have n5 : (op == 5) = false := by simp; omega
      have n6 : (op == 6) = false := by simp; omega
      have n7 : (op == 7) = false := by simp; omega
      have n8 : (op == 8) = false := by simp; omega
      have n9 : (op == 9) = false := by simp; omega
      have n2' : (op != 2) = true := by simp; omega
      clear h9 H1
      cases raw
      all_goals
        go_enter Tryd.func48, Tryd.ntmps48
        go_wp2_with (go_at_call 85; refine (rwithin_any _ _ _ _).mono ?_; rintro e w' ⟨rfl, rfl⟩)
        all_goals
          go_ret
          exact ⟨ret_bool HO.out.symm, (by repeat' (first | exact Below.refl _ _ | (refine below_drewN ?_ _) | (refine Below.drew ?_) | (refine Below.alloc ?_ ?_ _) | (refine below_set ?_ ?_) | (simp; done) | (simp; omega)))⟩
end Go.Proofs.YtmbboianghbjkaaDoor
