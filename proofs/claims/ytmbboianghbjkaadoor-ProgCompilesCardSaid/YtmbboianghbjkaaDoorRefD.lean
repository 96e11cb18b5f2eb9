import Derived.Test.YtmbboianghbjkaaDoorRefC
import Derived.Test.YtmbboianghbjkaaDoorChk
namespace Go.Proofs.YtmbboianghbjkaaDoor
open Go.RowKit Go.Shelf
set_option linter.unusedVariables false
set_option linter.unusedSimpArgs false
attribute [local go_sem] bl_refl bl_alloc bl_a2 bl_a3 bl_a4 bl_a5 bl_set bl_drew bl_drewN le_add_r lt_add_r Go.Proofs.YtmbboianghbjkaaDoor.addr_add

set_option maxHeartbeats 2000000 in
theorem rset_any (B : Nat) (w0 w : World) (A : Option Addr) (c : Nat) (l : List (Int × Int)) (raw : Bool) (hb : Below B w0 w) (hB : B ≤ w.heap.size) (h : Sl (RngAt B w0) 2 (.slice A l.length c) l) (hr : rngsOk' l) :
    Calls Tryd.prog 121 #[.slice A l.length c, .bool raw] w fun e w' => e = .returned (.bool (setOk l raw)) ∧ Below w.heap.size w w' := by
  have HC := Lib.hid h
  have hlen : l.length ≤ 9223372036854775807 := by obtain ⟨_, _, _, _, q, _⟩ := h; exact q
  have HR := Lib.hid hr
  clear h hr
  go_enter Tryd.func121, Tryd.ntmps121
  go_wp2_with fail
  refine (rsetCheck_any B l _ w0 w hb hB HC.out HR.out).mono ?_
  rintro e w1 ⟨rfl, hb1⟩
  by_cases ck : chkAll l = true
  case neg =>
    have HS : Hid (setOk l raw = false) := Lib.hid (by unfold setOk; rw [show chkAll l = false by simpa using ck]; rfl)
    rw [show errNo (chkAll l) = 1 by unfold errNo; rw [if_neg ck]]
    clear ck
    go_wp2
    go_ret
    exact ⟨ret_bool HS.out.symm, hb1⟩
  have HS : Hid (setOk l raw = (!raw || decide (l.length = 0) || decide ((l.getD (l.length - 1) (0, 0)).2 ≤ 255))) := Lib.hid (by unfold setOk; rw [ck]; rfl)
  rw [show errNo (chkAll l) = 0 by unfold errNo; rw [if_pos ck]]
  clear ck
  cases raw
  case false =>
    go_wp2
    go_ret
    exact ⟨ret_bool (by rw [HS.out]; rfl), hb1⟩
  by_cases hl0 : l.length = 0
  case pos =>
    obtain rfl : l = [] := List.eq_nil_of_length_eq_zero hl0
    go_wp2
    go_ret
    exact ⟨ret_bool (by rw [HS.out]; rfl), hb1⟩
  obtain ⟨A', c', e', _, _, hcells⟩ := HC.out
  cases e'
  obtain ⟨b, o, rfl, hR⟩ := hcells (by omega)
  have c2 : w1.cell? ⟨b, o + (l.length - 1) * 2 + 1, none⟩ = some (.int .i32 (l[l.length - 1]'(by omega)).2) := (hR (l.length - 1) (by omega)).hi w1 (hb.trans (hb1.mono hB))
  rw [getD_at l (l.length - 1) (0, 0) (by omega)] at c2
  clear hR hcells
  generalize hu : (l.getD (l.length - 1) (0, 0)).2 = u at *
  clear hu
  have hl1 : ((l.length : Int) == 0) = false := by rw [beq_eq_false_iff_ne]; omega
  have hl2 : 0 ≤ (l.length : Int) - 1 := by omega
  have hl3 : ((l.length : Int) - 1).toNat = l.length - 1 := by omega
  have HL0 := Lib.hid hl0
  clear hl0
  go_wp2
  go_ret
  refine ⟨ret_bool ?_, hb1⟩
  rw [HS.out, Bool.eq_iff_iff]
  simp [HL0.out]
set_option maxHeartbeats 2000000 in
theorem rfits_any (B : Nat) (w0 w : World) (A : Option Addr) (c : Nat) (l : List (Int × Int)) (raw : Bool) (hb : Below B w0 w) (hB : B ≤ w.heap.size) (h : Sl (RngAt B w0) 2 (.slice A l.length c) l) (hr : rngsOk' l) :
    Calls Tryd.prog 86 #[.slice A l.length c, .bool raw] w fun e w' => e = .returned (.bool (setOk l raw)) ∧ Below w.heap.size w w' := by
  have HC := Lib.hid h
  have hlen : l.length ≤ 9223372036854775807 := by obtain ⟨_, _, _, _, q, _⟩ := h; exact q
  have HR := Lib.hid hr
  clear h hr
  go_enter Tryd.func86, Tryd.ntmps86
  go_wp2_with fail
  refine (rsetCheck_any B l _ w0 w hb hB HC.out HR.out).mono ?_
  rintro e w1 ⟨rfl, hb1⟩
  by_cases ck : chkAll l = true
  case neg =>
    have HS : Hid (setOk l raw = false) := Lib.hid (by unfold setOk; rw [show chkAll l = false by simpa using ck]; rfl)
    rw [show errNo (chkAll l) = 1 by unfold errNo; rw [if_neg ck]]
    clear ck
    go_wp2
    go_ret
    exact ⟨ret_bool HS.out.symm, hb1⟩
  have HS : Hid (setOk l raw = (!raw || decide (l.length = 0) || decide ((l.getD (l.length - 1) (0, 0)).2 ≤ 255))) := Lib.hid (by unfold setOk; rw [ck]; rfl)
  rw [show errNo (chkAll l) = 0 by unfold errNo; rw [if_pos ck]]
  clear ck
  cases raw
  case false =>
    go_wp2
    go_ret
    exact ⟨ret_bool (by rw [HS.out]; rfl), hb1⟩
  by_cases hl0 : l.length = 0
  case pos =>
    obtain rfl : l = [] := List.eq_nil_of_length_eq_zero hl0
    go_wp2
    go_ret
    exact ⟨ret_bool (by rw [HS.out]; rfl), hb1⟩
  obtain ⟨A', c', e', _, _, hcells⟩ := HC.out
  cases e'
  obtain ⟨b, o, rfl, hR⟩ := hcells (by omega)
  have c2 : w1.cell? ⟨b, o + (l.length - 1) * 2 + 1, none⟩ = some (.int .i32 (l[l.length - 1]'(by omega)).2) := (hR (l.length - 1) (by omega)).hi w1 (hb.trans (hb1.mono hB))
  rw [getD_at l (l.length - 1) (0, 0) (by omega)] at c2
  clear hR hcells
  generalize hu : (l.getD (l.length - 1) (0, 0)).2 = u at *
  clear hu
  have hl1 : ((l.length : Int) == 0) = false := by rw [beq_eq_false_iff_ne]; omega
  have hl2 : 0 ≤ (l.length : Int) - 1 := by omega
  have hl3 : ((l.length : Int) - 1).toNat = l.length - 1 := by omega
  have HL0 := Lib.hid hl0
  clear hl0
  go_wp2
  go_ret
  refine ⟨ret_bool ?_, hb1⟩
  rw [HS.out, Bool.eq_iff_iff]
  simp [HL0.out]

def partsOk (op : Int) (n : Nat) : Bool :=
  if op = 1 ∨ op = 6 then decide (n = 0) else if op = 2 then !decide (n = 1) else if op = 3 then decide (2 ≤ n) else if op = 4 ∨ op = 5 then decide (n = 1) else false
set_option maxHeartbeats 2000000 in
theorem rparts_any (op : Int) (n : Nat) (w : World) (hn : n ≤ 9223372036854775807) :
    Calls Tryd.prog 81 #[.int .i64 op, .int .i64 n] w fun e w' => e = .returned (.bool (partsOk op n)) ∧ w' = w := by
  go_enter Tryd.func81, Tryd.ntmps81
  go_wp2
  all_goals
    go_ret
    refine ⟨ret_bool ?_, rfl⟩
    unfold partsOk
    rw [Bool.eq_iff_iff]
    simp only [beq_iff_eq, beq_eq_false_iff_ne, ne_eq] at *
    simp [*]
    try omega
def fld7 (n : Node) (raw : Bool) : Bool :=
  (decide (n.op = 1) || decide (n.set.length = 0)) && (decide (n.op = 4) || (decide (n.min = 0) && decide (n.max = 0) && !n.lzy)) && (decide (n.op = 5) || decide (n.group = 0)) && (decide (n.op = 6) || decide (n.look = 0)) &&
  (if n.op = 4 then decide (0 ≤ n.min) && decide (n.min ≤ 200) && (decide (n.max = -1) || (decide (n.min ≤ n.max) && decide (n.max ≤ 200))) else if n.op = 6 then decide (1 ≤ n.look) && decide (n.look ≤ 6) else !decide (n.op = 1) || setOk n.set raw)
theorem fld7_eq (n : Node) (raw : Bool) : (partsOk n.op n.kids.length && fld7 n raw) = (numOk n && fldOk n raw) := by
  obtain ⟨op, set, kids, mn, mx, lz, gr, lk⟩ := n
  unfold partsOk fld7 numOk fldOk setOk
  dsimp only
  generalize set.length = L
  generalize (set.getD (L - 1) (0, 0)).2 = u
  generalize chkAll set = ch
  generalize kids.length = K
  rw [Bool.eq_iff_iff]
  by_cases h1 : op = 1
  · subst h1
    cases raw <;> cases ch <;> cases lz <;> first | (simp; done) | (simp; omega)
  by_cases h6 : op = 6
  · subst h6
    cases lz <;> first | (simp; done) | (simp; omega)
  by_cases h2 : op = 2
  · subst h2
    cases lz <;> first | (simp; done) | (simp; omega)
  by_cases h3 : op = 3
  · subst h3
    cases lz <;> first | (simp; done) | (simp; omega)
  by_cases h5 : op = 5
  · subst h5
    cases lz <;> first | (simp; done) | (simp; omega)
  by_cases h4 : op = 4
  · subst h4
    cases lz <;> first | (simp; done) | (simp; omega)
  · simp [h1, h2, h3, h4, h5, h6]
set_option maxHeartbeats 4000000 in
theorem rfields_any (B : Nat) (w0 w : World) (n : Node) (A Ak : Option Addr) (c ck : Nat) (raw : Bool) (hb : Below B w0 w) (hB : B ≤ w.heap.size) (h : Sl (RngAt B w0) 2 (.slice A n.set.length c) n.set) (hr : rngsOk' n.set) :
    Calls Tryd.prog 82 #[.agg #[.int .i64 n.op, .slice A n.set.length c, .slice Ak n.kids.length ck, .int .i64 n.min, .int .i64 n.max, .bool n.lzy, .int .i64 n.group, .int .i64 n.look], .bool raw] w fun e w' => e = .returned (.bool (fld7 n raw)) ∧ Below w.heap.size w w' := by
  obtain ⟨op, set, kids, mn, mx, lz, gr, lk⟩ := n
  dsimp only at *
  have hlen : set.length ≤ 9223372036854775807 := by obtain ⟨_, _, _, _, q, _⟩ := h; exact q
  by_cases h1 : op = 1
  · subst h1
    have HS := Lib.hid (fun W hb1 hB1 => rset_any B w0 W A c set raw hb1 hB1 h hr)
    clear h hr
    have HF : Hid (fld7 ⟨1, set, kids, mn, mx, lz, gr, lk⟩ raw = (decide (mn = 0) && decide (mx = 0) && !lz && decide (gr = 0) && decide (lk = 0) && setOk set raw)) := Lib.hid (by unfold fld7; simp)
    go_enter Tryd.func82, Tryd.ntmps82
    by_cases a1 : mn = 0 ∧ mx = 0 ∧ lz = false ∧ gr = 0 ∧ lk = 0
    · obtain ⟨rfl, rfl, rfl, rfl, rfl⟩ := a1
      go_wp2_with fail
      refine (HS.out _ ?_ ?_).mono ?_
      rotate_left 2
      rintro e w1 ⟨rfl, hb1⟩
      have hbe := Below.trans (show Below w.heap.size w _ from (by repeat' (first | exact Below.refl _ _ | (refine below_drewN ?_ _) | (refine Below.drew ?_) | (refine Below.alloc ?_ ?_ _) | (refine below_set ?_ ?_) | (simp; done) | (simp; omega)))) (hb1.mono (by simp; try omega))
      clear hb1
      go_wp2
      go_ret
      exact ⟨ret_bool (by rw [HF.out]; simp), hbe⟩
      all_goals first | exact hb.alloc hB _ | (simp; omega)
    · have HA := Lib.hid a1
      clear a1
      have HF0 : Hid (fld7 ⟨1, set, kids, mn, mx, lz, gr, lk⟩ raw = false) := Lib.hid (by
        rw [HF.out]
        have := HA.out
        cases lz <;> simp at this ⊢ <;> omega)
      clear HF
      go_wp2_with fail
      all_goals first
        | (go_ret; exact ⟨ret_bool HF0.out.symm, (by repeat' (first | exact Below.refl _ _ | (refine below_drewN ?_ _) | (refine Below.drew ?_) | (refine Below.alloc ?_ ?_ _) | (refine below_set ?_ ?_) | (simp; done) | (simp; omega)))⟩)
        | (exfalso; have := HA.out; simp only [beq_iff_eq, beq_eq_false_iff_ne, bne_iff_ne, ne_eq, Bool.not_eq_true, bne_eq_false_iff_eq] at *; simp [*] at this)
  · have q1 : (op == 1) = false := by simp [h1]
    have q1' : (op != 1) = true := by simp [h1]
    have H1 := Lib.hid h1
    clear h1 h hr
    cases lz
    all_goals
     go_enter Tryd.func82, Tryd.ntmps82
     go_wp2
     all_goals
       go_ret
       refine ⟨ret_bool ?_, (by repeat' (first | exact Below.refl _ _ | (refine below_drewN ?_ _) | (refine Below.drew ?_) | (refine Below.alloc ?_ ?_ _) | (refine below_set ?_ ?_) | (simp; done) | (simp; omega)))⟩
       unfold fld7
       dsimp only
       have h1 := H1.out
       clear hlen
       generalize set.length = L at *
       clear q1 q1'
       rw [Bool.eq_iff_iff]
       simp only [beq_iff_eq, beq_eq_false_iff_ne, bne_iff_ne, ne_eq, bne_eq_false_iff_eq] at *
       simp [*]
       try omega
end Go.Proofs.YtmbboianghbjkaaDoor
