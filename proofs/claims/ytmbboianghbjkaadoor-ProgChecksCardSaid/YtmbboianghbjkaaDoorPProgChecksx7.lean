-- PRINTED BY print.sh 35421559b90ae4d0a3588c463048766b98c2df88dd9212a6774a882060cdf62d: not written by this session
import Derived.Test.YtmbboianghbjkaaDoorPProgChecksx0
import Derived.Test.YtmbboianghbjkaaDoorPProgChecksx4
import Derived.Test.YtmbboianghbjkaaDoorPProgChecksx6
namespace Go.Proofs.YtmbboianghbjkaaDoor.PProgChecks
open Go.RowKit Go.Proofs.YtmbboianghbjkaaDoorW.PrintWords Go.Proofs.YtmbboianghbjkaaDoorW.PrintLast Go.Proofs.YtmbboianghbjkaaDoorW.PrintMore
attribute [local go_sem] max2_int min2_int max_two min_two max_three min_three max_four min_four   -- for this text's walks alone
set_option linter.unusedVariables false
set_option linter.unusedSimpArgs false

/-! ### thistleref12_inst: function 48 -/
mutual
def thistleref12_inst.j0 : Nat → Int → Int → Bool → Int → Int → List (S96) → Int → Int → Int → Option (Bool)
  | 0, _, _, _, _, _, _, _, _, _ => none
  | k + 1, x1, x2, x3, x9, x164000, x164001, x164002, x164003, x164004 => if x164000 = 1 then (thistleref12_inst.j1 k x1 x2 x3 x9 false x164000 x164001 x164002 x164003 x164004) else (thistleref12_inst.j1 k x1 x2 x3 x9 (decide ((x164001.length : Int) > 0)) x164000 x164001 x164002 x164003 x164004)
def thistleref12_inst.j1 : Nat → Int → Int → Bool → Int → Bool → Int → List (S96) → Int → Int → Int → Option (Bool)
  | 0, _, _, _, _, _, _, _, _, _, _ => none
  | k + 1, x1, x2, x3, x9, x19, x164000, x164001, x164002, x164003, x164004 => if x19 = true then (some false) else (if x164000 = 2 then (thistleref12_inst.j2 k x1 x2 x3 x9 false x164000 x164001 x164002 x164003 x164004) else (thistleref12_inst.j2 k x1 x2 x3 x9 (x164003 != 0) x164000 x164001 x164002 x164003 x164004))
def thistleref12_inst.j2 : Nat → Int → Int → Bool → Int → Bool → Int → List (S96) → Int → Int → Int → Option (Bool)
  | 0, _, _, _, _, _, _, _, _, _, _ => none
  | k + 1, x1, x2, x3, x9, x27, x164000, x164001, x164002, x164003, x164004 => if x27 = true then (some false) else (if x164000 = 1 then ((thistleref12_within.f x164002 0 (wrap64 (x1 - 1))).bind fun t164 => (if t164 = true then (if x164004 = 0 then ((thistleref12_Fits.f k x164001 x3).bind fun t165 => (some t165)) else (some false)) else (some false))) else (if x164000 = 2 then ((thistleref12_within.f x164002 0 (wrap64 (x1 - 1))).bind fun t166 => (if t166 = true then ((thistleref12_within.f x164003 0 (wrap64 (x1 - 1))).bind fun t167 => (if t167 = true then (some (x164004 == 0)) else (some false))) else (some false))) else (if x164000 = 3 then ((thistleref12_within.f x164002 0 (wrap64 (x1 - 1))).bind fun t168 => (if t168 = true then ((thistleref12_within.f x164004 2 (wrap64 ((wrap64 (2 * x2)) + 1))).bind fun t169 => (some t169)) else (some false))) else (if x164000 = 4 then ((thistleref12_within.f x164002 0 (wrap64 (x1 - 1))).bind fun t170 => (if t170 = true then ((thistleref12_within.f x164004 1 x9).bind fun t171 => (some t171)) else (some false))) else (if x164000 = 5 then (thistleref12_inst.j3 k x1 x164000 (x164000 == 5) x164000 x164001 x164002 x164003 x164004) else (thistleref12_inst.j3 k x1 x164000 (x164000 == 6) x164000 x164001 x164002 x164003 x164004))))))
def thistleref12_inst.j3 : Nat → Int → Int → Bool → Int → List (S96) → Int → Int → Int → Option (Bool)
  | 0, _, _, _, _, _, _, _, _ => none
  | k + 1, x1, x29, x95, x164000, x164001, x164002, x164003, x164004 => if x95 = true then ((thistleref12_within.f x164002 0 (wrap64 (x1 - 1))).bind fun t172 => (if t172 = true then ((thistleref12_within.f x164004 0 63).bind fun t173 => (some t173)) else (some false))) else (if x29 = 9 then ((thistleref12_within.f x164002 0 (wrap64 (x1 - 1))).bind fun t174 => (if t174 = true then (some (x164004 == 0)) else (some false))) else (if x29 = 7 then (if x164002 = 0 then (some (x164004 == 0)) else (some false)) else (if x29 = 8 then (if x164002 = 0 then (some (x164004 == 0)) else (some false)) else (some false))))
end
def thistleref12_inst.f (k : Nat) (a0_0 : Int) (l0_1 : List (S96)) (a0_2 : Int) (a0_3 : Int) (a0_4 : Int) (a1 : Int) (a2 : Int) (a3 : Bool) : Option (Bool) := if a3 = true then (thistleref12_inst.j0 k a1 a2 a3 8 a0_0 l0_1 a0_2 a0_3 a0_4) else (thistleref12_inst.j0 k a1 a2 a3 6 a0_0 l0_1 a0_2 a0_3 a0_4)
theorem thistleref12_inst.mono_l : ∀ k, (∀ y0 y1 y2 y3 y4 y5 y6 y7 y8, LeO (thistleref12_inst.j0 k y0 y1 y2 y3 y4 y5 y6 y7 y8) (thistleref12_inst.j0 (k + 1) y0 y1 y2 y3 y4 y5 y6 y7 y8)) ∧ (∀ y0 y1 y2 y3 y4 y5 y6 y7 y8 y9, LeO (thistleref12_inst.j1 k y0 y1 y2 y3 y4 y5 y6 y7 y8 y9) (thistleref12_inst.j1 (k + 1) y0 y1 y2 y3 y4 y5 y6 y7 y8 y9)) ∧ (∀ y0 y1 y2 y3 y4 y5 y6 y7 y8 y9, LeO (thistleref12_inst.j2 k y0 y1 y2 y3 y4 y5 y6 y7 y8 y9) (thistleref12_inst.j2 (k + 1) y0 y1 y2 y3 y4 y5 y6 y7 y8 y9)) ∧ (∀ y0 y1 y2 y3 y4 y5 y6 y7, LeO (thistleref12_inst.j3 k y0 y1 y2 y3 y4 y5 y6 y7) (thistleref12_inst.j3 (k + 1) y0 y1 y2 y3 y4 y5 y6 y7))
  | 0 => ⟨fun _ _ _ _ _ _ _ _ _ r h => by simp [thistleref12_inst.j0] at h, fun _ _ _ _ _ _ _ _ _ _ r h => by simp [thistleref12_inst.j1] at h, fun _ _ _ _ _ _ _ _ _ _ r h => by simp [thistleref12_inst.j2] at h, fun _ _ _ _ _ _ _ _ r h => by simp [thistleref12_inst.j3] at h⟩
  | k + 1 => by
    obtain ⟨ih0, ih1, ih2, ih3⟩ := thistleref12_inst.mono_l k
    refine ⟨?_, ?_, ?_, ?_⟩
    · intro y0 y1 y2 y3 y4 y5 y6 y7 y8
      unfold thistleref12_inst.j0
      repeat' first
      | (with_reducible exact ih0 _ _ _ _ _ _ _ _ _)
      | (with_reducible exact ih1 _ _ _ _ _ _ _ _ _ _)
      | (with_reducible exact ih2 _ _ _ _ _ _ _ _ _ _)
      | (with_reducible exact ih3 _ _ _ _ _ _ _ _)
      | (with_reducible exact thistleref12_Fits.mono _ _ _)
      | (with_reducible exact LeO.refl _)
      | (with_reducible exact LeO.none _)
      | (with_reducible refine LeO.ite ?_ ?_)
      | (with_reducible refine LeO.bind ?_ (fun _ => ?_))
      | exact ih0 _ _ _ _ _ _ _ _ _
      | exact ih1 _ _ _ _ _ _ _ _ _ _
      | exact ih2 _ _ _ _ _ _ _ _ _ _
      | exact ih3 _ _ _ _ _ _ _ _
      | exact thistleref12_Fits.mono _ _ _
      | exact LeO.none _
      | refine LeO.ite ?_ ?_
      | refine LeO.bind ?_ (fun _ => ?_)
    · intro y0 y1 y2 y3 y4 y5 y6 y7 y8 y9
      unfold thistleref12_inst.j1
      repeat' first
      | (with_reducible exact ih0 _ _ _ _ _ _ _ _ _)
      | (with_reducible exact ih1 _ _ _ _ _ _ _ _ _ _)
      | (with_reducible exact ih2 _ _ _ _ _ _ _ _ _ _)
      | (with_reducible exact ih3 _ _ _ _ _ _ _ _)
      | (with_reducible exact thistleref12_Fits.mono _ _ _)
      | (with_reducible exact LeO.refl _)
      | (with_reducible exact LeO.none _)
      | (with_reducible refine LeO.ite ?_ ?_)
      | (with_reducible refine LeO.bind ?_ (fun _ => ?_))
      | exact ih0 _ _ _ _ _ _ _ _ _
      | exact ih1 _ _ _ _ _ _ _ _ _ _
      | exact ih2 _ _ _ _ _ _ _ _ _ _
      | exact ih3 _ _ _ _ _ _ _ _
      | exact thistleref12_Fits.mono _ _ _
      | exact LeO.none _
      | refine LeO.ite ?_ ?_
      | refine LeO.bind ?_ (fun _ => ?_)
    · intro y0 y1 y2 y3 y4 y5 y6 y7 y8 y9
      unfold thistleref12_inst.j2
      repeat' first
      | (with_reducible exact ih0 _ _ _ _ _ _ _ _ _)
      | (with_reducible exact ih1 _ _ _ _ _ _ _ _ _ _)
      | (with_reducible exact ih2 _ _ _ _ _ _ _ _ _ _)
      | (with_reducible exact ih3 _ _ _ _ _ _ _ _)
      | (with_reducible exact thistleref12_Fits.mono _ _ _)
      | (with_reducible exact LeO.refl _)
      | (with_reducible exact LeO.none _)
      | (with_reducible refine LeO.ite ?_ ?_)
      | (with_reducible refine LeO.bind ?_ (fun _ => ?_))
      | exact ih0 _ _ _ _ _ _ _ _ _
      | exact ih1 _ _ _ _ _ _ _ _ _ _
      | exact ih2 _ _ _ _ _ _ _ _ _ _
      | exact ih3 _ _ _ _ _ _ _ _
      | exact thistleref12_Fits.mono _ _ _
      | exact LeO.none _
      | refine LeO.ite ?_ ?_
      | refine LeO.bind ?_ (fun _ => ?_)
    · intro y0 y1 y2 y3 y4 y5 y6 y7
      unfold thistleref12_inst.j3
      repeat' first
      | (with_reducible exact ih0 _ _ _ _ _ _ _ _ _)
      | (with_reducible exact ih1 _ _ _ _ _ _ _ _ _ _)
      | (with_reducible exact ih2 _ _ _ _ _ _ _ _ _ _)
      | (with_reducible exact ih3 _ _ _ _ _ _ _ _)
      | (with_reducible exact thistleref12_Fits.mono _ _ _)
      | (with_reducible exact LeO.refl _)
      | (with_reducible exact LeO.none _)
      | (with_reducible refine LeO.ite ?_ ?_)
      | (with_reducible refine LeO.bind ?_ (fun _ => ?_))
      | exact ih0 _ _ _ _ _ _ _ _ _
      | exact ih1 _ _ _ _ _ _ _ _ _ _
      | exact ih2 _ _ _ _ _ _ _ _ _ _
      | exact ih3 _ _ _ _ _ _ _ _
      | exact thistleref12_Fits.mono _ _ _
      | exact LeO.none _
      | refine LeO.ite ?_ ?_
      | refine LeO.bind ?_ (fun _ => ?_)
theorem thistleref12_inst.mono : ∀ a0 a1 a2 a3 a4 a5 a6 a7 k, LeO (thistleref12_inst.f k a0 a1 a2 a3 a4 a5 a6 a7) (thistleref12_inst.f (k + 1) a0 a1 a2 a3 a4 a5 a6 a7) := by
  intro a0 a1 a2 a3 a4 a5 a6 a7 k
  obtain ⟨ih0, ih1, ih2, ih3⟩ := thistleref12_inst.mono_l k
  unfold thistleref12_inst.f
  repeat' first
      | (with_reducible exact ih0 _ _ _ _ _ _ _ _ _)
      | (with_reducible exact ih1 _ _ _ _ _ _ _ _ _ _)
      | (with_reducible exact ih2 _ _ _ _ _ _ _ _ _ _)
      | (with_reducible exact ih3 _ _ _ _ _ _ _ _)
      | (with_reducible exact thistleref12_Fits.mono _ _ _)
      | (with_reducible exact LeO.refl _)
      | (with_reducible exact LeO.none _)
      | (with_reducible refine LeO.ite ?_ ?_)
      | (with_reducible refine LeO.bind ?_ (fun _ => ?_))
      | exact ih0 _ _ _ _ _ _ _ _ _
      | exact ih1 _ _ _ _ _ _ _ _ _ _
      | exact ih2 _ _ _ _ _ _ _ _ _ _
      | exact ih3 _ _ _ _ _ _ _ _
      | exact thistleref12_Fits.mono _ _ _
      | exact LeO.none _
      | refine LeO.ite ?_ ?_
      | refine LeO.bind ?_ (fun _ => ?_)
set_option maxHeartbeats 8000000 in
set_option maxRecDepth 100000 in
theorem thistleref12_inst.calls (k : Nat) (a0_0 : Int) (A0_1 : Option Addr) (c0_1 : Nat) (l0_1 : List (S96)) (a0_2 : Int) (a0_3 : Int) (a0_4 : Int) (a1 : Int) (a2 : Int) (a3 : Bool) (r : Bool) (w : World) (hr0_1 : Kd.C k96 w A0_1 l0_1.length l0_1) (hc0_1 : l0_1.length ≤ c0_1) (h : thistleref12_inst.f k a0_0 l0_1 a0_2 a0_3 a0_4 a1 a2 a3 = some r) :
    Calls Tryd.prog 48 #[.agg #[.int .i64 a0_0, .slice A0_1 l0_1.length c0_1, .int .i64 a0_2, .int .i64 a0_3, .int .i64 a0_4], .int .i64 a1, .int .i64 a2, .bool a3] w fun e w' => e = .returned (.bool r) ∧ Below w.heap.size w w' := by
  have hu47 := Tryd.underlying47
  have HR0_1 := Aside0.mk hr0_1
  have HC0_1 := Aside0.mk hc0_1
  clear hr0_1 hc0_1
  have HB := Aside0.mk (Below.refl w.heap.size w)
  have H : (if a3 = true then (thistleref12_inst.j0 k a1 a2 a3 8 a0_0 l0_1 a0_2 a0_3 a0_4) else (thistleref12_inst.j0 k a1 a2 a3 6 a0_0 l0_1 a0_2 a0_3 a0_4)) = some r := h
  clear h
  have HC5 := Aside0.mk H
  clear H
  go_enter Tryd.func48, Tryd.ntmps48
  go_upto_if 10 with (first | ((with_reducible refine gate_dst (N := 4) rfl ?_); (try (refine gate_guard (by rfl) ?_; dsimp only)); refine box_event ?hg (N := 4) ?hd (cs := #[.int .i64 a0_0, .slice A0_1 l0_1.length c0_1, .int .i64 a0_2, .int .i64 a0_3, .int .i64 a0_4]) (t := 47) ?hr ?_; (case hd => rfl); (case hg => rfl); (case hr => first | (go_simp; done) | (go_simp; rfl)); intro gb163 hg w6 hbox hb; have n0_ := Aside0.mk (below_step (by repeat (first | (with_reducible first | exact HB.out | apply below_alloc | apply pw_below_drewN | apply below_drew1) | exact HB.out)) hb); have n1_ := Aside0.mk (hbox); have n2_ := Aside0.mk ((by rw [hg]; exact (below_size (by repeat (first | (with_reducible first | exact HB.out | apply below_alloc | apply pw_below_drewN | apply below_drew1) | exact HB.out))) : w.heap.size ≤ gb163)); have n3_ := Aside0.mk ((by rw [hg]; exact (below_size (by repeat (first | (with_reducible first | exact HB.out | apply below_alloc | apply pw_below_drewN | apply below_drew1) | exact HB.out))) : w.heap.size ≤ gb163)); clear HB; have HB := n0_; have BK163 := n1_; have GW163 := n2_; have GE163 := n3_; clear n0_ n1_ n2_ n3_; clear hb hbox hg))
  (try simp only [Act.put, List.setIfInBounds_toArray, List.set_cons_zero, List.set_cons_succ])
  go_cut [9] (fun v9 wc => ∃ (kq : Nat) (x9_4 : Int), v9 = .int .i64 x9_4 ∧ Aside0 (thistleref12_inst.j0 kq a1 a2 a3 x9_4 a0_0 l0_1 a0_2 a0_3 a0_4 = some r) ∧ Aside0 (kq ≤ k) ∧ Aside0 (wc.heap[gb163]? = some (.cells #[.int .i64 a0_0, (.slice A0_1 l0_1.length c0_1), .int .i64 a0_2, .int .i64 a0_3, .int .i64 a0_4] 47 (0, 0))) ∧ Aside0 (Below w.heap.size w wc))
  case first =>
    have H := HC5.out
    clear HC5
    by_cases c7 : a3 = true
    · subst c7
      have H1 : (thistleref12_inst.j0 k a1 a2 true 8 a0_0 l0_1 a0_2 a0_3 a0_4) = some r := by rw [if_pos rfl] at H; exact H
      clear H
      have H := H1
      clear H1
      have H' := Aside0.mk H
      clear H
      go_wp2
      go_meet
      case rel => exact ⟨_, (8), (by first | rfl | (simp; done) | (simp [*]; done)), H', ⟨by first | omega | exact Nat.le_refl _⟩, ⟨by (with_reducible repeat (first | refine blk_drewN ?_ _ | refine blk_drew ?_ | refine blk_alloc ?_ _)); exact BK163.out⟩, ⟨by repeat (first | (with_reducible first | exact HB.out | apply below_alloc | apply pw_below_drewN | apply below_drew1 | refine below_set ?_ GE163.out) | exact HB.out)⟩⟩
    · replace c7 := Bool.eq_false_iff.mpr c7
      subst c7
      have H1 : (thistleref12_inst.j0 k a1 a2 false 6 a0_0 l0_1 a0_2 a0_3 a0_4) = some r := by rw [if_neg (show ¬ (false = true) by decide)] at H; exact H
      clear H
      have H := H1
      clear H1
      have H' := Aside0.mk H
      clear H
      go_wp2
      go_meet
      case rel => exact ⟨_, (6), (by first | rfl | (simp; done) | (simp [*]; done)), H', ⟨by first | omega | exact Nat.le_refl _⟩, ⟨by (with_reducible repeat (first | refine blk_drewN ?_ _ | refine blk_drew ?_ | refine blk_alloc ?_ _)); exact BK163.out⟩, ⟨by repeat (first | (with_reducible first | exact HB.out | apply below_alloc | apply pw_below_drewN | apply below_drew1 | refine below_set ?_ GE163.out) | exact HB.out)⟩⟩
  case rest =>
    clear HC5
    try clear p2
    try clear c4
    try clear c7
    obtain ⟨kq, x9_4, rfl, HA, HJ4, BK163, HB⟩ := hcut
    cases kq with
    | zero => exact absurd HA.out (by simp [thistleref12_inst.j0])
    | succ kj4 =>
      have H := HA.out
      clear HA
      simp only [thistleref12_inst.j0] at H
      have HC8 := Aside0.mk H
      clear H
      go_upto_region 4 with (fail)
      go_cut [19] (fun v19 wc => ∃ (kq : Nat) (x19_7 : Bool), v19 = .bool x19_7 ∧ Aside0 (thistleref12_inst.j1 kq a1 a2 a3 x9_4 x19_7 a0_0 l0_1 a0_2 a0_3 a0_4 = some r) ∧ Aside0 (kq ≤ kj4) ∧ Aside0 (wc.heap[gb163]? = some (.cells #[.int .i64 a0_0, (.slice A0_1 l0_1.length c0_1), .int .i64 a0_2, .int .i64 a0_3, .int .i64 a0_4] 47 (0, 0))) ∧ Aside0 (Below w.heap.size w wc))
      case first =>
        have H := HC8.out
        clear HC8
        by_cases c9 : a0_0 = 1
        · rw [if_pos c9] at H
          have c9b0 : (a0_0 == 1) = true := beq_iff_eq.mpr c9
          have c9b1 : (a0_0 != 1) = false := bne_eq_false_iff_eq.mpr c9
          clear c9
          (first | rw [c9b0] | (simp only [i64_w, i32_w]; rw [c9b0]) | skip)
          have H' := Aside0.mk H
          clear H
          have hcz10_0 : wc.cell? ⟨gb163, 0, none⟩ = some (.int .i64 a0_0) := (blk_cell BK163.out 0).trans rfl
          have hcz10_1 : wc.cell? ⟨gb163, 1, none⟩ = some (.slice A0_1 l0_1.length c0_1) := (blk_cell BK163.out 1).trans rfl
          have hcz10_2 : wc.cell? ⟨gb163, 2, none⟩ = some (.int .i64 a0_2) := (blk_cell BK163.out 2).trans rfl
          have hcz10_3 : wc.cell? ⟨gb163, 3, none⟩ = some (.int .i64 a0_3) := (blk_cell BK163.out 3).trans rfl
          have hcz10_4 : wc.cell? ⟨gb163, 4, none⟩ = some (.int .i64 a0_4) := (blk_cell BK163.out 4).trans rfl
          have hfz10_0 := blk_frozen BK163.out 0
          have hfz10_1 := blk_frozen BK163.out 1
          have hfz10_2 := blk_frozen BK163.out 2
          have hfz10_3 := blk_frozen BK163.out 3
          have hfz10_4 := blk_frozen BK163.out 4
          go_wp2
          go_meet
          case rel => exact ⟨_, (false), (by first | rfl | (simp; done) | (simp [*]; done)), H', ⟨by have := HJ4.out; first | omega | exact Nat.le_refl _⟩, ⟨by (with_reducible repeat (first | refine blk_drewN ?_ _ | refine blk_drew ?_ | refine blk_alloc ?_ _)); exact BK163.out⟩, ⟨by repeat (first | (with_reducible first | exact HB.out | apply below_alloc | apply pw_below_drewN | apply below_drew1 | refine below_set ?_ GE163.out) | exact HB.out)⟩⟩
        · rw [if_neg c9] at H
          have c9b0 : (a0_0 == 1) = false := beq_eq_false_iff_ne.mpr c9
          have c9b1 : (a0_0 != 1) = true := bne_iff_ne.mpr c9
          (first | rw [c9b0] | (simp only [i64_w, i32_w]; rw [c9b0]) | skip)
          have H' := Aside0.mk H
          clear H
          have hcz11_0 : wc.cell? ⟨gb163, 0, none⟩ = some (.int .i64 a0_0) := (blk_cell BK163.out 0).trans rfl
          have hcz11_1 : wc.cell? ⟨gb163, 1, none⟩ = some (.slice A0_1 l0_1.length c0_1) := (blk_cell BK163.out 1).trans rfl
          have hcz11_2 : wc.cell? ⟨gb163, 2, none⟩ = some (.int .i64 a0_2) := (blk_cell BK163.out 2).trans rfl
          have hcz11_3 : wc.cell? ⟨gb163, 3, none⟩ = some (.int .i64 a0_3) := (blk_cell BK163.out 3).trans rfl
          have hcz11_4 : wc.cell? ⟨gb163, 4, none⟩ = some (.int .i64 a0_4) := (blk_cell BK163.out 4).trans rfl
          have hfz11_0 := blk_frozen BK163.out 0
          have hfz11_1 := blk_frozen BK163.out 1
          have hfz11_2 := blk_frozen BK163.out 2
          have hfz11_3 := blk_frozen BK163.out 3
          have hfz11_4 := blk_frozen BK163.out 4
          go_wp2
          go_meet
          case rel => exact ⟨_, (decide ((l0_1.length : Int) > 0)), (by first | rfl | (simp; done) | (simp [*]; done)), H', ⟨by have := HJ4.out; first | omega | exact Nat.le_refl _⟩, ⟨by (with_reducible repeat (first | refine blk_drewN ?_ _ | refine blk_drew ?_ | refine blk_alloc ?_ _)); exact BK163.out⟩, ⟨by repeat (first | (with_reducible first | exact HB.out | apply below_alloc | apply pw_below_drewN | apply below_drew1 | refine below_set ?_ GE163.out) | exact HB.out)⟩⟩
      case rest =>
        clear HC8
        try clear p2
        try clear c4
        try clear c7
        try clear c9
        try clear c9b0
        try clear c9b1
        try clear hcz10_0
        try clear hcz10_1
        try clear hcz10_2
        try clear hcz10_3
        try clear hcz10_4
        try clear hcz11_0
        try clear hcz11_1
        try clear hcz11_2
        try clear hcz11_3
        try clear hcz11_4
        try clear hfz10_0
        try clear hfz10_1
        try clear hfz10_2
        try clear hfz10_3
        try clear hfz10_4
        try clear hfz11_0
        try clear hfz11_1
        try clear hfz11_2
        try clear hfz11_3
        try clear hfz11_4
        try clear p2
        obtain ⟨kq, x19_7, rfl, HA, HJ7, BK163, HB⟩ := hcut
        cases kq with
        | zero => exact absurd HA.out (by simp [thistleref12_inst.j1])
        | succ kj7 =>
          have H := HA.out
          clear HA
          simp only [thistleref12_inst.j1] at H
          by_cases c12 : x19_7 = true
          · subst c12
            have H1 : (some false) = some r := by rw [if_pos rfl] at H; exact H
            clear H
            have H := H1
            clear H1
            obtain rfl := Option.some.inj H
            go_wp2
            go_ret
            exact ⟨by first | rfl | (simp [errW_none, errW_some] <;> rfl) | (simp [*, errW_none, errW_some] <;> rfl), by repeat (first | (with_reducible first | exact HB.out | apply below_alloc | apply pw_below_drewN | apply below_drew1 | refine below_set ?_ GE163.out) | exact HB.out)⟩
          · replace c12 := Bool.eq_false_iff.mpr c12
            subst c12
            have H1 : (if a0_0 = 2 then (thistleref12_inst.j2 kj7 a1 a2 a3 x9_4 false a0_0 l0_1 a0_2 a0_3 a0_4) else (thistleref12_inst.j2 kj7 a1 a2 a3 x9_4 (a0_3 != 0) a0_0 l0_1 a0_2 a0_3 a0_4)) = some r := by rw [if_neg (show ¬ (false = true) by decide)] at H; exact H
            clear H
            have H := H1
            clear H1
            have HC13 := Aside0.mk H
            clear H
            go_upto_region 6 with (fail)
            go_cut [27] (fun v27 wc => ∃ (kq : Nat) (x27_12 : Bool), v27 = .bool x27_12 ∧ Aside0 (thistleref12_inst.j2 kq a1 a2 a3 x9_4 x27_12 a0_0 l0_1 a0_2 a0_3 a0_4 = some r) ∧ Aside0 (kq ≤ kj7) ∧ Aside0 (wc.heap[gb163]? = some (.cells #[.int .i64 a0_0, (.slice A0_1 l0_1.length c0_1), .int .i64 a0_2, .int .i64 a0_3, .int .i64 a0_4] 47 (0, 0))) ∧ Aside0 (Below w.heap.size w wc))
            case first =>
              have H := HC13.out
              clear HC13
              by_cases c14 : a0_0 = 2
              · rw [if_pos c14] at H
                have c14b0 : (a0_0 == 2) = true := beq_iff_eq.mpr c14
                have c14b1 : (a0_0 != 2) = false := bne_eq_false_iff_eq.mpr c14
                clear c14
                (first | rw [c14b0] | (simp only [i64_w, i32_w]; rw [c14b0]) | skip)
                have H' := Aside0.mk H
                clear H
                have hcz15_0 : wc.cell? ⟨gb163, 0, none⟩ = some (.int .i64 a0_0) := (blk_cell BK163.out 0).trans rfl
                have hcz15_1 : wc.cell? ⟨gb163, 1, none⟩ = some (.slice A0_1 l0_1.length c0_1) := (blk_cell BK163.out 1).trans rfl
                have hcz15_2 : wc.cell? ⟨gb163, 2, none⟩ = some (.int .i64 a0_2) := (blk_cell BK163.out 2).trans rfl
                have hcz15_3 : wc.cell? ⟨gb163, 3, none⟩ = some (.int .i64 a0_3) := (blk_cell BK163.out 3).trans rfl
                have hcz15_4 : wc.cell? ⟨gb163, 4, none⟩ = some (.int .i64 a0_4) := (blk_cell BK163.out 4).trans rfl
                have hfz15_0 := blk_frozen BK163.out 0
                have hfz15_1 := blk_frozen BK163.out 1
                have hfz15_2 := blk_frozen BK163.out 2
                have hfz15_3 := blk_frozen BK163.out 3
                have hfz15_4 := blk_frozen BK163.out 4
                go_wp2
                go_meet
                case rel => exact ⟨_, (false), (by first | rfl | (simp; done) | (simp [*]; done)), H', ⟨by have := HJ4.out; have := HJ7.out; first | omega | exact Nat.le_refl _⟩, ⟨by (with_reducible repeat (first | refine blk_drewN ?_ _ | refine blk_drew ?_ | refine blk_alloc ?_ _)); exact BK163.out⟩, ⟨by repeat (first | (with_reducible first | exact HB.out | apply below_alloc | apply pw_below_drewN | apply below_drew1 | refine below_set ?_ GE163.out) | exact HB.out)⟩⟩
              · rw [if_neg c14] at H
                have c14b0 : (a0_0 == 2) = false := beq_eq_false_iff_ne.mpr c14
                have c14b1 : (a0_0 != 2) = true := bne_iff_ne.mpr c14
                (first | rw [c14b0] | (simp only [i64_w, i32_w]; rw [c14b0]) | skip)
                have H' := Aside0.mk H
                clear H
                have hcz16_0 : wc.cell? ⟨gb163, 0, none⟩ = some (.int .i64 a0_0) := (blk_cell BK163.out 0).trans rfl
                have hcz16_1 : wc.cell? ⟨gb163, 1, none⟩ = some (.slice A0_1 l0_1.length c0_1) := (blk_cell BK163.out 1).trans rfl
                have hcz16_2 : wc.cell? ⟨gb163, 2, none⟩ = some (.int .i64 a0_2) := (blk_cell BK163.out 2).trans rfl
                have hcz16_3 : wc.cell? ⟨gb163, 3, none⟩ = some (.int .i64 a0_3) := (blk_cell BK163.out 3).trans rfl
                have hcz16_4 : wc.cell? ⟨gb163, 4, none⟩ = some (.int .i64 a0_4) := (blk_cell BK163.out 4).trans rfl
                have hfz16_0 := blk_frozen BK163.out 0
                have hfz16_1 := blk_frozen BK163.out 1
                have hfz16_2 := blk_frozen BK163.out 2
                have hfz16_3 := blk_frozen BK163.out 3
                have hfz16_4 := blk_frozen BK163.out 4
                go_wp2
                go_meet
                case rel => exact ⟨_, ((a0_3 != 0)), (by first | rfl | (simp; done) | (simp [*]; done)), H', ⟨by have := HJ4.out; have := HJ7.out; first | omega | exact Nat.le_refl _⟩, ⟨by (with_reducible repeat (first | refine blk_drewN ?_ _ | refine blk_drew ?_ | refine blk_alloc ?_ _)); exact BK163.out⟩, ⟨by repeat (first | (with_reducible first | exact HB.out | apply below_alloc | apply pw_below_drewN | apply below_drew1 | refine below_set ?_ GE163.out) | exact HB.out)⟩⟩
            case rest =>
              clear HC13
              try clear c1
              try clear p2
              try clear c4
              try clear c7
              try clear c9
              try clear c9b0
              try clear c9b1
              try clear c12
              try clear c14
              try clear c14b0
              try clear c14b1
              try clear hcz10_0
              try clear hcz10_1
              try clear hcz10_2
              try clear hcz10_3
              try clear hcz10_4
              try clear hcz11_0
              try clear hcz11_1
              try clear hcz11_2
              try clear hcz11_3
              try clear hcz11_4
              try clear hcz15_0
              try clear hcz15_1
              try clear hcz15_2
              try clear hcz15_3
              try clear hcz15_4
              try clear hcz16_0
              try clear hcz16_1
              try clear hcz16_2
              try clear hcz16_3
              try clear hcz16_4
              try clear hfz10_0
              try clear hfz10_1
              try clear hfz10_2
              try clear hfz10_3
              try clear hfz10_4
              try clear hfz11_0
              try clear hfz11_1
              try clear hfz11_2
              try clear hfz11_3
              try clear hfz11_4
              try clear hfz15_0
              try clear hfz15_1
              try clear hfz15_2
              try clear hfz15_3
              try clear hfz15_4
              try clear hfz16_0
              try clear hfz16_1
              try clear hfz16_2
              try clear hfz16_3
              try clear hfz16_4
              try clear p2
              obtain ⟨kq, x27_12, rfl, HA, HJ12, BK163, HB⟩ := hcut
              cases kq with
              | zero => exact absurd HA.out (by simp [thistleref12_inst.j2])
              | succ kj12 =>
                have H := HA.out
                clear HA
                simp only [thistleref12_inst.j2] at H
                by_cases c17 : x27_12 = true
                · subst c17
                  have H1 : (some false) = some r := by rw [if_pos rfl] at H; exact H
                  clear H
                  have H := H1
                  clear H1
                  obtain rfl := Option.some.inj H
                  go_wp2
                  go_ret
                  exact ⟨by first | rfl | (simp [errW_none, errW_some] <;> rfl) | (simp [*, errW_none, errW_some] <;> rfl), by repeat (first | (with_reducible first | exact HB.out | apply below_alloc | apply pw_below_drewN | apply below_drew1 | refine below_set ?_ GE163.out) | exact HB.out)⟩
                · replace c17 := Bool.eq_false_iff.mpr c17
                  subst c17
                  have H1 : (if a0_0 = 1 then ((thistleref12_within.f a0_2 0 (wrap64 (a1 - 1))).bind fun t164 => (if t164 = true then (if a0_4 = 0 then ((thistleref12_Fits.f kj12 l0_1 a3).bind fun t165 => (some t165)) else (some false)) else (some false))) else (if a0_0 = 2 then ((thistleref12_within.f a0_2 0 (wrap64 (a1 - 1))).bind fun t166 => (if t166 = true then ((thistleref12_within.f a0_3 0 (wrap64 (a1 - 1))).bind fun t167 => (if t167 = true then (some (a0_4 == 0)) else (some false))) else (some false))) else (if a0_0 = 3 then ((thistleref12_within.f a0_2 0 (wrap64 (a1 - 1))).bind fun t168 => (if t168 = true then ((thistleref12_within.f a0_4 2 (wrap64 ((wrap64 (2 * a2)) + 1))).bind fun t169 => (some t169)) else (some false))) else (if a0_0 = 4 then ((thistleref12_within.f a0_2 0 (wrap64 (a1 - 1))).bind fun t170 => (if t170 = true then ((thistleref12_within.f a0_4 1 x9_4).bind fun t171 => (some t171)) else (some false))) else (if a0_0 = 5 then (thistleref12_inst.j3 kj12 a1 a0_0 (a0_0 == 5) a0_0 l0_1 a0_2 a0_3 a0_4) else (thistleref12_inst.j3 kj12 a1 a0_0 (a0_0 == 6) a0_0 l0_1 a0_2 a0_3 a0_4)))))) = some r := by rw [if_neg (show ¬ (false = true) by decide)] at H; exact H
                  clear H
                  have H := H1
                  clear H1
                  by_cases c18 : a0_0 = 1
                  · rw [if_pos c18] at H
                    have c18b0 : (a0_0 == 1) = true := beq_iff_eq.mpr c18
                    have c18b1 : (a0_0 != 1) = false := bne_eq_false_iff_eq.mpr c18
                    clear c18
                    replace H := Option.bind_eq_some_iff.mp H
                    obtain ⟨t164, A190, H⟩ := H
                    replace H : (if t164 = true then (if a0_4 = 0 then ((thistleref12_Fits.f kj12 l0_1 a3).bind fun t165 => (some t165)) else (some false)) else (some false)) = some r := H
                    have A19 := Aside0.mk A190
                    clear A190
                    by_cases c20 : t164 = true
                    · subst c20
                      have H1 : (if a0_4 = 0 then ((thistleref12_Fits.f kj12 l0_1 a3).bind fun t165 => (some t165)) else (some false)) = some r := by rw [if_pos rfl] at H; exact H
                      clear H
                      have H := H1
                      clear H1
                      by_cases c21 : a0_4 = 0
                      · rw [if_pos c21] at H
                        have c21b0 : (a0_4 == 0) = true := beq_iff_eq.mpr c21
                        have c21b1 : (a0_4 != 0) = false := bne_eq_false_iff_eq.mpr c21
                        clear c21
                        replace H := Option.bind_eq_some_iff.mp H
                        obtain ⟨t165, A220, H⟩ := H
                        replace H : (some t165) = some r := H
                        have A22 := Aside0.mk A220
                        clear A220
                        obtain rfl := Option.some.inj H
                        have hcz23_0 : wc.cell? ⟨gb163, 0, none⟩ = some (.int .i64 a0_0) := (blk_cell BK163.out 0).trans rfl
                        have hcz23_1 : wc.cell? ⟨gb163, 1, none⟩ = some (.slice A0_1 l0_1.length c0_1) := (blk_cell BK163.out 1).trans rfl
                        have hcz23_2 : wc.cell? ⟨gb163, 2, none⟩ = some (.int .i64 a0_2) := (blk_cell BK163.out 2).trans rfl
                        have hcz23_3 : wc.cell? ⟨gb163, 3, none⟩ = some (.int .i64 a0_3) := (blk_cell BK163.out 3).trans rfl
                        have hcz23_4 : wc.cell? ⟨gb163, 4, none⟩ = some (.int .i64 a0_4) := (blk_cell BK163.out 4).trans rfl
                        have hfz23_0 := blk_frozen BK163.out 0
                        have hfz23_1 := blk_frozen BK163.out 1
                        have hfz23_2 := blk_frozen BK163.out 2
                        have hfz23_3 := blk_frozen BK163.out 3
                        have hfz23_4 := blk_frozen BK163.out 4
                        go_wp2_with (first | ((with_reducible refine gate_callee (f := 85) rfl ?_); refine goesL_ (some 36) rfl rfl Tryd.func85 (by kernel_rfl) rfl #[.int .i64 a0_2, .int .i64 0, .int .i64 (wrap64 (a1 - 1))] rfl (by (try simp only [List.map_toArray, List.map_cons, List.map_nil]); first | done | rfl | (simp only [List.length_drop, List.length_take]; rfl)) ?_; (with_reducible refine (thistleref12_within.calls a0_2 0 (wrap64 (a1 - 1)) true _ A19.out).mono ?_); rintro e w' ⟨rfl, ⟨nd, rfl⟩⟩; refine ⟨_, rfl, ?_⟩) | (go_at_call 86; (with_reducible refine (thistleref12_Fits.calls kj12 _ _ l0_1 a3 t165 _ ?side1 ?side2 A22.out).mono ?_); (case side1 => repeat (first | exact (Kd.C_below HR0_1.out (by repeat (first | (with_reducible first | exact HB.out | apply below_alloc | apply pw_below_drewN | apply below_drew1 | refine below_set ?_ GE163.out) | exact HB.out))) | (with_reducible refine Kd.C_alloc ?_ _) | (with_reducible refine Kd.C_drewN ?_ _) | (with_reducible refine Kd.C_drew ?_))); (case side2 => exact HC0_1.out); rintro e w24 ⟨rfl, hb⟩; have n0_ := Aside0.mk (blk_below (g := gb163) (o := .cells #[.int .i64 a0_0, .slice A0_1 l0_1.length c0_1, .int .i64 a0_2, .int .i64 a0_3, .int .i64 a0_4] 47 (0, 0)) (by (with_reducible repeat (first | refine blk_drewN ?_ _ | refine blk_drew ?_ | refine blk_alloc ?_ _)); exact BK163.out) hb); have n1_ := Aside0.mk (below_step (by repeat (first | (with_reducible first | exact HB.out | apply below_alloc | apply pw_below_drewN | apply below_drew1 | refine below_set ?_ GE163.out) | exact HB.out)) hb); clear BK163; clear HB; have BK163 := n0_; have HB := n1_; clear n0_ n1_; (try clear hb); (try clear hb2); (try clear hk); (try clear hi)))
                        go_ret
                        exact ⟨by first | rfl | (simp [errW_none, errW_some] <;> rfl) | (simp [*, errW_none, errW_some] <;> rfl), by repeat (first | (with_reducible first | exact HB.out | apply below_alloc | apply pw_below_drewN | apply below_drew1 | refine below_set ?_ GE163.out) | exact HB.out)⟩
                      · rw [if_neg c21] at H
                        have c21b0 : (a0_4 == 0) = false := beq_eq_false_iff_ne.mpr c21
                        have c21b1 : (a0_4 != 0) = true := bne_iff_ne.mpr c21
                        obtain rfl := Option.some.inj H
                        have hcz25_0 : wc.cell? ⟨gb163, 0, none⟩ = some (.int .i64 a0_0) := (blk_cell BK163.out 0).trans rfl
                        have hcz25_1 : wc.cell? ⟨gb163, 1, none⟩ = some (.slice A0_1 l0_1.length c0_1) := (blk_cell BK163.out 1).trans rfl
                        have hcz25_2 : wc.cell? ⟨gb163, 2, none⟩ = some (.int .i64 a0_2) := (blk_cell BK163.out 2).trans rfl
                        have hcz25_3 : wc.cell? ⟨gb163, 3, none⟩ = some (.int .i64 a0_3) := (blk_cell BK163.out 3).trans rfl
                        have hcz25_4 : wc.cell? ⟨gb163, 4, none⟩ = some (.int .i64 a0_4) := (blk_cell BK163.out 4).trans rfl
                        have hfz25_0 := blk_frozen BK163.out 0
                        have hfz25_1 := blk_frozen BK163.out 1
                        have hfz25_2 := blk_frozen BK163.out 2
                        have hfz25_3 := blk_frozen BK163.out 3
                        have hfz25_4 := blk_frozen BK163.out 4
                        go_wp2_with (first | ((with_reducible refine gate_callee (f := 85) rfl ?_); refine goesL_ (some 36) rfl rfl Tryd.func85 (by kernel_rfl) rfl #[.int .i64 a0_2, .int .i64 0, .int .i64 (wrap64 (a1 - 1))] rfl (by (try simp only [List.map_toArray, List.map_cons, List.map_nil]); first | done | rfl | (simp only [List.length_drop, List.length_take]; rfl)) ?_; (with_reducible refine (thistleref12_within.calls a0_2 0 (wrap64 (a1 - 1)) true _ A19.out).mono ?_); rintro e w' ⟨rfl, ⟨nd, rfl⟩⟩; refine ⟨_, rfl, ?_⟩))
                        go_ret
                        exact ⟨by first | rfl | (simp [errW_none, errW_some] <;> rfl) | (simp [*, errW_none, errW_some] <;> rfl), by repeat (first | (with_reducible first | exact HB.out | apply below_alloc | apply pw_below_drewN | apply below_drew1 | refine below_set ?_ GE163.out) | exact HB.out)⟩
                    · replace c20 := Bool.eq_false_iff.mpr c20
                      subst c20
                      have H1 : (some false) = some r := by rw [if_neg (show ¬ (false = true) by decide)] at H; exact H
                      clear H
                      have H := H1
                      clear H1
                      obtain rfl := Option.some.inj H
                      have hcz26_0 : wc.cell? ⟨gb163, 0, none⟩ = some (.int .i64 a0_0) := (blk_cell BK163.out 0).trans rfl
                      have hcz26_1 : wc.cell? ⟨gb163, 1, none⟩ = some (.slice A0_1 l0_1.length c0_1) := (blk_cell BK163.out 1).trans rfl
                      have hcz26_2 : wc.cell? ⟨gb163, 2, none⟩ = some (.int .i64 a0_2) := (blk_cell BK163.out 2).trans rfl
                      have hcz26_3 : wc.cell? ⟨gb163, 3, none⟩ = some (.int .i64 a0_3) := (blk_cell BK163.out 3).trans rfl
                      have hcz26_4 : wc.cell? ⟨gb163, 4, none⟩ = some (.int .i64 a0_4) := (blk_cell BK163.out 4).trans rfl
                      have hfz26_0 := blk_frozen BK163.out 0
                      have hfz26_1 := blk_frozen BK163.out 1
                      have hfz26_2 := blk_frozen BK163.out 2
                      have hfz26_3 := blk_frozen BK163.out 3
                      have hfz26_4 := blk_frozen BK163.out 4
                      go_wp2_with (first | ((with_reducible refine gate_callee (f := 85) rfl ?_); refine goesL_ (some 36) rfl rfl Tryd.func85 (by kernel_rfl) rfl #[.int .i64 a0_2, .int .i64 0, .int .i64 (wrap64 (a1 - 1))] rfl (by (try simp only [List.map_toArray, List.map_cons, List.map_nil]); first | done | rfl | (simp only [List.length_drop, List.length_take]; rfl)) ?_; (with_reducible refine (thistleref12_within.calls a0_2 0 (wrap64 (a1 - 1)) false _ A19.out).mono ?_); rintro e w' ⟨rfl, ⟨nd, rfl⟩⟩; refine ⟨_, rfl, ?_⟩))
                      go_ret
                      exact ⟨by first | rfl | (simp [errW_none, errW_some] <;> rfl) | (simp [*, errW_none, errW_some] <;> rfl), by repeat (first | (with_reducible first | exact HB.out | apply below_alloc | apply pw_below_drewN | apply below_drew1 | refine below_set ?_ GE163.out) | exact HB.out)⟩
                  · rw [if_neg c18] at H
                    have c18b0 : (a0_0 == 1) = false := beq_eq_false_iff_ne.mpr c18
                    have c18b1 : (a0_0 != 1) = true := bne_iff_ne.mpr c18
                    by_cases c27 : a0_0 = 2
                    · rw [if_pos c27] at H
                      have c27b0 : (a0_0 == 2) = true := beq_iff_eq.mpr c27
                      have c27b1 : (a0_0 != 2) = false := bne_eq_false_iff_eq.mpr c27
                      clear c27
                      replace H := Option.bind_eq_some_iff.mp H
                      obtain ⟨t166, A280, H⟩ := H
                      replace H : (if t166 = true then ((thistleref12_within.f a0_3 0 (wrap64 (a1 - 1))).bind fun t167 => (if t167 = true then (some (a0_4 == 0)) else (some false))) else (some false)) = some r := H
                      have A28 := Aside0.mk A280
                      clear A280
                      by_cases c29 : t166 = true
                      · subst c29
                        have H1 : ((thistleref12_within.f a0_3 0 (wrap64 (a1 - 1))).bind fun t167 => (if t167 = true then (some (a0_4 == 0)) else (some false))) = some r := by rw [if_pos rfl] at H; exact H
                        clear H
                        have H := H1
                        clear H1
                        replace H := Option.bind_eq_some_iff.mp H
                        obtain ⟨t167, A300, H⟩ := H
                        replace H : (if t167 = true then (some (a0_4 == 0)) else (some false)) = some r := H
                        have A30 := Aside0.mk A300
                        clear A300
                        by_cases c31 : t167 = true
                        · subst c31
                          have H1 : (some (a0_4 == 0)) = some r := by rw [if_pos rfl] at H; exact H
                          clear H
                          have H := H1
                          clear H1
                          obtain rfl := Option.some.inj H
                          have hcz32_0 : wc.cell? ⟨gb163, 0, none⟩ = some (.int .i64 a0_0) := (blk_cell BK163.out 0).trans rfl
                          have hcz32_1 : wc.cell? ⟨gb163, 1, none⟩ = some (.slice A0_1 l0_1.length c0_1) := (blk_cell BK163.out 1).trans rfl
                          have hcz32_2 : wc.cell? ⟨gb163, 2, none⟩ = some (.int .i64 a0_2) := (blk_cell BK163.out 2).trans rfl
                          have hcz32_3 : wc.cell? ⟨gb163, 3, none⟩ = some (.int .i64 a0_3) := (blk_cell BK163.out 3).trans rfl
                          have hcz32_4 : wc.cell? ⟨gb163, 4, none⟩ = some (.int .i64 a0_4) := (blk_cell BK163.out 4).trans rfl
                          have hfz32_0 := blk_frozen BK163.out 0
                          have hfz32_1 := blk_frozen BK163.out 1
                          have hfz32_2 := blk_frozen BK163.out 2
                          have hfz32_3 := blk_frozen BK163.out 3
                          have hfz32_4 := blk_frozen BK163.out 4
                          go_wp2_with (first | ((with_reducible refine gate_callee (f := 85) rfl ?_); refine goesL_ (some 54) rfl rfl Tryd.func85 (by kernel_rfl) rfl #[.int .i64 a0_2, .int .i64 0, .int .i64 (wrap64 (a1 - 1))] rfl (by (try simp only [List.map_toArray, List.map_cons, List.map_nil]); first | done | rfl | (simp only [List.length_drop, List.length_take]; rfl)) ?_; (with_reducible refine (thistleref12_within.calls a0_2 0 (wrap64 (a1 - 1)) true _ A28.out).mono ?_); rintro e w' ⟨rfl, ⟨nd, rfl⟩⟩; refine ⟨_, rfl, ?_⟩) | (go_at_call 85; (with_reducible refine (thistleref12_within.calls a0_3 0 (wrap64 (a1 - 1)) true _ A30.out).mono ?_); rintro e w' ⟨rfl, ⟨nd, rfl⟩⟩))
                          go_ret
                          exact ⟨by first | rfl | (simp [errW_none, errW_some] <;> rfl) | (simp [*, errW_none, errW_some] <;> rfl), by repeat (first | (with_reducible first | exact HB.out | apply below_alloc | apply pw_below_drewN | apply below_drew1 | refine below_set ?_ GE163.out) | exact HB.out)⟩
                        · replace c31 := Bool.eq_false_iff.mpr c31
                          subst c31
                          have H1 : (some false) = some r := by rw [if_neg (show ¬ (false = true) by decide)] at H; exact H
                          clear H
                          have H := H1
                          clear H1
                          obtain rfl := Option.some.inj H
                          have hcz33_0 : wc.cell? ⟨gb163, 0, none⟩ = some (.int .i64 a0_0) := (blk_cell BK163.out 0).trans rfl
                          have hcz33_1 : wc.cell? ⟨gb163, 1, none⟩ = some (.slice A0_1 l0_1.length c0_1) := (blk_cell BK163.out 1).trans rfl
                          have hcz33_2 : wc.cell? ⟨gb163, 2, none⟩ = some (.int .i64 a0_2) := (blk_cell BK163.out 2).trans rfl
                          have hcz33_3 : wc.cell? ⟨gb163, 3, none⟩ = some (.int .i64 a0_3) := (blk_cell BK163.out 3).trans rfl
                          have hcz33_4 : wc.cell? ⟨gb163, 4, none⟩ = some (.int .i64 a0_4) := (blk_cell BK163.out 4).trans rfl
                          have hfz33_0 := blk_frozen BK163.out 0
                          have hfz33_1 := blk_frozen BK163.out 1
                          have hfz33_2 := blk_frozen BK163.out 2
                          have hfz33_3 := blk_frozen BK163.out 3
                          have hfz33_4 := blk_frozen BK163.out 4
                          go_wp2_with (first | ((with_reducible refine gate_callee (f := 85) rfl ?_); refine goesL_ (some 54) rfl rfl Tryd.func85 (by kernel_rfl) rfl #[.int .i64 a0_2, .int .i64 0, .int .i64 (wrap64 (a1 - 1))] rfl (by (try simp only [List.map_toArray, List.map_cons, List.map_nil]); first | done | rfl | (simp only [List.length_drop, List.length_take]; rfl)) ?_; (with_reducible refine (thistleref12_within.calls a0_2 0 (wrap64 (a1 - 1)) true _ A28.out).mono ?_); rintro e w' ⟨rfl, ⟨nd, rfl⟩⟩; refine ⟨_, rfl, ?_⟩) | (go_at_call 85; (with_reducible refine (thistleref12_within.calls a0_3 0 (wrap64 (a1 - 1)) false _ A30.out).mono ?_); rintro e w' ⟨rfl, ⟨nd, rfl⟩⟩))
                          go_ret
                          exact ⟨by first | rfl | (simp [errW_none, errW_some] <;> rfl) | (simp [*, errW_none, errW_some] <;> rfl), by repeat (first | (with_reducible first | exact HB.out | apply below_alloc | apply pw_below_drewN | apply below_drew1 | refine below_set ?_ GE163.out) | exact HB.out)⟩
                      · replace c29 := Bool.eq_false_iff.mpr c29
                        subst c29
                        have H1 : (some false) = some r := by rw [if_neg (show ¬ (false = true) by decide)] at H; exact H
                        clear H
                        have H := H1
                        clear H1
                        obtain rfl := Option.some.inj H
                        have hcz34_0 : wc.cell? ⟨gb163, 0, none⟩ = some (.int .i64 a0_0) := (blk_cell BK163.out 0).trans rfl
                        have hcz34_1 : wc.cell? ⟨gb163, 1, none⟩ = some (.slice A0_1 l0_1.length c0_1) := (blk_cell BK163.out 1).trans rfl
                        have hcz34_2 : wc.cell? ⟨gb163, 2, none⟩ = some (.int .i64 a0_2) := (blk_cell BK163.out 2).trans rfl
                        have hcz34_3 : wc.cell? ⟨gb163, 3, none⟩ = some (.int .i64 a0_3) := (blk_cell BK163.out 3).trans rfl
                        have hcz34_4 : wc.cell? ⟨gb163, 4, none⟩ = some (.int .i64 a0_4) := (blk_cell BK163.out 4).trans rfl
                        have hfz34_0 := blk_frozen BK163.out 0
                        have hfz34_1 := blk_frozen BK163.out 1
                        have hfz34_2 := blk_frozen BK163.out 2
                        have hfz34_3 := blk_frozen BK163.out 3
                        have hfz34_4 := blk_frozen BK163.out 4
                        go_wp2_with (first | ((with_reducible refine gate_callee (f := 85) rfl ?_); refine goesL_ (some 54) rfl rfl Tryd.func85 (by kernel_rfl) rfl #[.int .i64 a0_2, .int .i64 0, .int .i64 (wrap64 (a1 - 1))] rfl (by (try simp only [List.map_toArray, List.map_cons, List.map_nil]); first | done | rfl | (simp only [List.length_drop, List.length_take]; rfl)) ?_; (with_reducible refine (thistleref12_within.calls a0_2 0 (wrap64 (a1 - 1)) false _ A28.out).mono ?_); rintro e w' ⟨rfl, ⟨nd, rfl⟩⟩; refine ⟨_, rfl, ?_⟩))
                        go_ret
                        exact ⟨by first | rfl | (simp [errW_none, errW_some] <;> rfl) | (simp [*, errW_none, errW_some] <;> rfl), by repeat (first | (with_reducible first | exact HB.out | apply below_alloc | apply pw_below_drewN | apply below_drew1 | refine below_set ?_ GE163.out) | exact HB.out)⟩
                    · rw [if_neg c27] at H
                      have c27b0 : (a0_0 == 2) = false := beq_eq_false_iff_ne.mpr c27
                      have c27b1 : (a0_0 != 2) = true := bne_iff_ne.mpr c27
                      by_cases c35 : a0_0 = 3
                      · rw [if_pos c35] at H
                        have c35b0 : (a0_0 == 3) = true := beq_iff_eq.mpr c35
                        have c35b1 : (a0_0 != 3) = false := bne_eq_false_iff_eq.mpr c35
                        clear c35
                        replace H := Option.bind_eq_some_iff.mp H
                        obtain ⟨t168, A360, H⟩ := H
                        replace H : (if t168 = true then ((thistleref12_within.f a0_4 2 (wrap64 ((wrap64 (2 * a2)) + 1))).bind fun t169 => (some t169)) else (some false)) = some r := H
                        have A36 := Aside0.mk A360
                        clear A360
                        by_cases c37 : t168 = true
                        · subst c37
                          have H1 : ((thistleref12_within.f a0_4 2 (wrap64 ((wrap64 (2 * a2)) + 1))).bind fun t169 => (some t169)) = some r := by rw [if_pos rfl] at H; exact H
                          clear H
                          have H := H1
                          clear H1
                          replace H := Option.bind_eq_some_iff.mp H
                          obtain ⟨t169, A380, H⟩ := H
                          replace H : (some t169) = some r := H
                          have A38 := Aside0.mk A380
                          clear A380
                          obtain rfl := Option.some.inj H
                          have hcz39_0 : wc.cell? ⟨gb163, 0, none⟩ = some (.int .i64 a0_0) := (blk_cell BK163.out 0).trans rfl
                          have hcz39_1 : wc.cell? ⟨gb163, 1, none⟩ = some (.slice A0_1 l0_1.length c0_1) := (blk_cell BK163.out 1).trans rfl
                          have hcz39_2 : wc.cell? ⟨gb163, 2, none⟩ = some (.int .i64 a0_2) := (blk_cell BK163.out 2).trans rfl
                          have hcz39_3 : wc.cell? ⟨gb163, 3, none⟩ = some (.int .i64 a0_3) := (blk_cell BK163.out 3).trans rfl
                          have hcz39_4 : wc.cell? ⟨gb163, 4, none⟩ = some (.int .i64 a0_4) := (blk_cell BK163.out 4).trans rfl
                          have hfz39_0 := blk_frozen BK163.out 0
                          have hfz39_1 := blk_frozen BK163.out 1
                          have hfz39_2 := blk_frozen BK163.out 2
                          have hfz39_3 := blk_frozen BK163.out 3
                          have hfz39_4 := blk_frozen BK163.out 4
                          go_wp2_with (first | ((with_reducible refine gate_callee (f := 85) rfl ?_); refine goesL_ (some 73) rfl rfl Tryd.func85 (by kernel_rfl) rfl #[.int .i64 a0_2, .int .i64 0, .int .i64 (wrap64 (a1 - 1))] rfl (by (try simp only [List.map_toArray, List.map_cons, List.map_nil]); first | done | rfl | (simp only [List.length_drop, List.length_take]; rfl)) ?_; (with_reducible refine (thistleref12_within.calls a0_2 0 (wrap64 (a1 - 1)) true _ A36.out).mono ?_); rintro e w' ⟨rfl, ⟨nd, rfl⟩⟩; refine ⟨_, rfl, ?_⟩) | (go_at_call 85; (with_reducible refine (thistleref12_within.calls a0_4 2 (wrap64 ((wrap64 (2 * a2)) + 1)) t169 _ A38.out).mono ?_); rintro e w' ⟨rfl, ⟨nd, rfl⟩⟩))
                          go_ret
                          exact ⟨by first | rfl | (simp [errW_none, errW_some] <;> rfl) | (simp [*, errW_none, errW_some] <;> rfl), by repeat (first | (with_reducible first | exact HB.out | apply below_alloc | apply pw_below_drewN | apply below_drew1 | refine below_set ?_ GE163.out) | exact HB.out)⟩
                        · replace c37 := Bool.eq_false_iff.mpr c37
                          subst c37
                          have H1 : (some false) = some r := by rw [if_neg (show ¬ (false = true) by decide)] at H; exact H
                          clear H
                          have H := H1
                          clear H1
                          obtain rfl := Option.some.inj H
                          have hcz40_0 : wc.cell? ⟨gb163, 0, none⟩ = some (.int .i64 a0_0) := (blk_cell BK163.out 0).trans rfl
                          have hcz40_1 : wc.cell? ⟨gb163, 1, none⟩ = some (.slice A0_1 l0_1.length c0_1) := (blk_cell BK163.out 1).trans rfl
                          have hcz40_2 : wc.cell? ⟨gb163, 2, none⟩ = some (.int .i64 a0_2) := (blk_cell BK163.out 2).trans rfl
                          have hcz40_3 : wc.cell? ⟨gb163, 3, none⟩ = some (.int .i64 a0_3) := (blk_cell BK163.out 3).trans rfl
                          have hcz40_4 : wc.cell? ⟨gb163, 4, none⟩ = some (.int .i64 a0_4) := (blk_cell BK163.out 4).trans rfl
                          have hfz40_0 := blk_frozen BK163.out 0
                          have hfz40_1 := blk_frozen BK163.out 1
                          have hfz40_2 := blk_frozen BK163.out 2
                          have hfz40_3 := blk_frozen BK163.out 3
                          have hfz40_4 := blk_frozen BK163.out 4
                          go_wp2_with (first | ((with_reducible refine gate_callee (f := 85) rfl ?_); refine goesL_ (some 73) rfl rfl Tryd.func85 (by kernel_rfl) rfl #[.int .i64 a0_2, .int .i64 0, .int .i64 (wrap64 (a1 - 1))] rfl (by (try simp only [List.map_toArray, List.map_cons, List.map_nil]); first | done | rfl | (simp only [List.length_drop, List.length_take]; rfl)) ?_; (with_reducible refine (thistleref12_within.calls a0_2 0 (wrap64 (a1 - 1)) false _ A36.out).mono ?_); rintro e w' ⟨rfl, ⟨nd, rfl⟩⟩; refine ⟨_, rfl, ?_⟩))
                          go_ret
                          exact ⟨by first | rfl | (simp [errW_none, errW_some] <;> rfl) | (simp [*, errW_none, errW_some] <;> rfl), by repeat (first | (with_reducible first | exact HB.out | apply below_alloc | apply pw_below_drewN | apply below_drew1 | refine below_set ?_ GE163.out) | exact HB.out)⟩
                      · rw [if_neg c35] at H
                        have c35b0 : (a0_0 == 3) = false := beq_eq_false_iff_ne.mpr c35
                        have c35b1 : (a0_0 != 3) = true := bne_iff_ne.mpr c35
                        by_cases c41 : a0_0 = 4
                        · rw [if_pos c41] at H
                          have c41b0 : (a0_0 == 4) = true := beq_iff_eq.mpr c41
                          have c41b1 : (a0_0 != 4) = false := bne_eq_false_iff_eq.mpr c41
                          clear c41
                          replace H := Option.bind_eq_some_iff.mp H
                          obtain ⟨t170, A420, H⟩ := H
                          replace H : (if t170 = true then ((thistleref12_within.f a0_4 1 x9_4).bind fun t171 => (some t171)) else (some false)) = some r := H
                          have A42 := Aside0.mk A420
                          clear A420
                          by_cases c43 : t170 = true
                          · subst c43
                            have H1 : ((thistleref12_within.f a0_4 1 x9_4).bind fun t171 => (some t171)) = some r := by rw [if_pos rfl] at H; exact H
                            clear H
                            have H := H1
                            clear H1
                            replace H := Option.bind_eq_some_iff.mp H
                            obtain ⟨t171, A440, H⟩ := H
                            replace H : (some t171) = some r := H
                            have A44 := Aside0.mk A440
                            clear A440
                            obtain rfl := Option.some.inj H
                            have hcz45_0 : wc.cell? ⟨gb163, 0, none⟩ = some (.int .i64 a0_0) := (blk_cell BK163.out 0).trans rfl
                            have hcz45_1 : wc.cell? ⟨gb163, 1, none⟩ = some (.slice A0_1 l0_1.length c0_1) := (blk_cell BK163.out 1).trans rfl
                            have hcz45_2 : wc.cell? ⟨gb163, 2, none⟩ = some (.int .i64 a0_2) := (blk_cell BK163.out 2).trans rfl
                            have hcz45_3 : wc.cell? ⟨gb163, 3, none⟩ = some (.int .i64 a0_3) := (blk_cell BK163.out 3).trans rfl
                            have hcz45_4 : wc.cell? ⟨gb163, 4, none⟩ = some (.int .i64 a0_4) := (blk_cell BK163.out 4).trans rfl
                            have hfz45_0 := blk_frozen BK163.out 0
                            have hfz45_1 := blk_frozen BK163.out 1
                            have hfz45_2 := blk_frozen BK163.out 2
                            have hfz45_3 := blk_frozen BK163.out 3
                            have hfz45_4 := blk_frozen BK163.out 4
                            go_wp2_with (first | ((with_reducible refine gate_callee (f := 85) rfl ?_); refine goesL_ (some 88) rfl rfl Tryd.func85 (by kernel_rfl) rfl #[.int .i64 a0_2, .int .i64 0, .int .i64 (wrap64 (a1 - 1))] rfl (by (try simp only [List.map_toArray, List.map_cons, List.map_nil]); first | done | rfl | (simp only [List.length_drop, List.length_take]; rfl)) ?_; (with_reducible refine (thistleref12_within.calls a0_2 0 (wrap64 (a1 - 1)) true _ A42.out).mono ?_); rintro e w' ⟨rfl, ⟨nd, rfl⟩⟩; refine ⟨_, rfl, ?_⟩) | (go_at_call 85; (with_reducible refine (thistleref12_within.calls a0_4 1 x9_4 t171 _ A44.out).mono ?_); rintro e w' ⟨rfl, ⟨nd, rfl⟩⟩))
                            go_ret
                            exact ⟨by first | rfl | (simp [errW_none, errW_some] <;> rfl) | (simp [*, errW_none, errW_some] <;> rfl), by repeat (first | (with_reducible first | exact HB.out | apply below_alloc | apply pw_below_drewN | apply below_drew1 | refine below_set ?_ GE163.out) | exact HB.out)⟩
                          · replace c43 := Bool.eq_false_iff.mpr c43
                            subst c43
                            have H1 : (some false) = some r := by rw [if_neg (show ¬ (false = true) by decide)] at H; exact H
                            clear H
                            have H := H1
                            clear H1
                            obtain rfl := Option.some.inj H
                            have hcz46_0 : wc.cell? ⟨gb163, 0, none⟩ = some (.int .i64 a0_0) := (blk_cell BK163.out 0).trans rfl
                            have hcz46_1 : wc.cell? ⟨gb163, 1, none⟩ = some (.slice A0_1 l0_1.length c0_1) := (blk_cell BK163.out 1).trans rfl
                            have hcz46_2 : wc.cell? ⟨gb163, 2, none⟩ = some (.int .i64 a0_2) := (blk_cell BK163.out 2).trans rfl
                            have hcz46_3 : wc.cell? ⟨gb163, 3, none⟩ = some (.int .i64 a0_3) := (blk_cell BK163.out 3).trans rfl
                            have hcz46_4 : wc.cell? ⟨gb163, 4, none⟩ = some (.int .i64 a0_4) := (blk_cell BK163.out 4).trans rfl
                            have hfz46_0 := blk_frozen BK163.out 0
                            have hfz46_1 := blk_frozen BK163.out 1
                            have hfz46_2 := blk_frozen BK163.out 2
                            have hfz46_3 := blk_frozen BK163.out 3
                            have hfz46_4 := blk_frozen BK163.out 4
                            go_wp2_with (first | ((with_reducible refine gate_callee (f := 85) rfl ?_); refine goesL_ (some 88) rfl rfl Tryd.func85 (by kernel_rfl) rfl #[.int .i64 a0_2, .int .i64 0, .int .i64 (wrap64 (a1 - 1))] rfl (by (try simp only [List.map_toArray, List.map_cons, List.map_nil]); first | done | rfl | (simp only [List.length_drop, List.length_take]; rfl)) ?_; (with_reducible refine (thistleref12_within.calls a0_2 0 (wrap64 (a1 - 1)) false _ A42.out).mono ?_); rintro e w' ⟨rfl, ⟨nd, rfl⟩⟩; refine ⟨_, rfl, ?_⟩))
                            go_ret
                            exact ⟨by first | rfl | (simp [errW_none, errW_some] <;> rfl) | (simp [*, errW_none, errW_some] <;> rfl), by repeat (first | (with_reducible first | exact HB.out | apply below_alloc | apply pw_below_drewN | apply below_drew1 | refine below_set ?_ GE163.out) | exact HB.out)⟩
                        · rw [if_neg c41] at H
                          have c41b0 : (a0_0 == 4) = false := beq_eq_false_iff_ne.mpr c41
                          have c41b1 : (a0_0 != 4) = true := bne_iff_ne.mpr c41
                          have HC47 := Aside0.mk H
                          clear H
                          have hcz48_0 : wc.cell? ⟨gb163, 0, none⟩ = some (.int .i64 a0_0) := (blk_cell BK163.out 0).trans rfl
                          have hcz48_1 : wc.cell? ⟨gb163, 1, none⟩ = some (.slice A0_1 l0_1.length c0_1) := (blk_cell BK163.out 1).trans rfl
                          have hcz48_2 : wc.cell? ⟨gb163, 2, none⟩ = some (.int .i64 a0_2) := (blk_cell BK163.out 2).trans rfl
                          have hcz48_3 : wc.cell? ⟨gb163, 3, none⟩ = some (.int .i64 a0_3) := (blk_cell BK163.out 3).trans rfl
                          have hcz48_4 : wc.cell? ⟨gb163, 4, none⟩ = some (.int .i64 a0_4) := (blk_cell BK163.out 4).trans rfl
                          have hfz48_0 := blk_frozen BK163.out 0
                          have hfz48_1 := blk_frozen BK163.out 1
                          have hfz48_2 := blk_frozen BK163.out 2
                          have hfz48_3 := blk_frozen BK163.out 3
                          have hfz48_4 := blk_frozen BK163.out 4
                          go_upto_if 95 with (fail)
                          go_cut [95] (fun v95 wc => ∃ (kq : Nat) (x95_46 : Bool), v95 = .bool x95_46 ∧ Aside0 (thistleref12_inst.j3 kq a1 a0_0 x95_46 a0_0 l0_1 a0_2 a0_3 a0_4 = some r) ∧ Aside0 (kq ≤ kj12) ∧ Aside0 (wc.heap[gb163]? = some (.cells #[.int .i64 a0_0, (.slice A0_1 l0_1.length c0_1), .int .i64 a0_2, .int .i64 a0_3, .int .i64 a0_4] 47 (0, 0))) ∧ Aside0 (Below w.heap.size w wc))
                          case first =>
                            have H := HC47.out
                            clear HC47
                            by_cases c49 : a0_0 = 5
                            · rw [if_pos c49] at H
                              have c49b0 : (a0_0 == 5) = true := beq_iff_eq.mpr c49
                              have c49b1 : (a0_0 != 5) = false := bne_eq_false_iff_eq.mpr c49
                              clear c49
                              (first | rw [c49b0] | (simp only [i64_w, i32_w]; rw [c49b0]) | skip)
                              have H' := Aside0.mk H
                              clear H
                              go_wp2
                              go_meet
                              case rel => exact ⟨_, ((a0_0 == 5)), (by first | rfl | (simp; done) | (simp [*]; done)), H', ⟨by have := HJ4.out; have := HJ7.out; have := HJ12.out; first | omega | exact Nat.le_refl _⟩, ⟨by (with_reducible repeat (first | refine blk_drewN ?_ _ | refine blk_drew ?_ | refine blk_alloc ?_ _)); exact BK163.out⟩, ⟨by repeat (first | (with_reducible first | exact HB.out | apply below_alloc | apply pw_below_drewN | apply below_drew1 | refine below_set ?_ GE163.out) | exact HB.out)⟩⟩
                            · rw [if_neg c49] at H
                              have c49b0 : (a0_0 == 5) = false := beq_eq_false_iff_ne.mpr c49
                              have c49b1 : (a0_0 != 5) = true := bne_iff_ne.mpr c49
                              (first | rw [c49b0] | (simp only [i64_w, i32_w]; rw [c49b0]) | skip)
                              have H' := Aside0.mk H
                              clear H
                              go_wp2
                              go_meet
                              case rel => exact ⟨_, ((a0_0 == 6)), (by first | rfl | (simp; done) | (simp [*]; done)), H', ⟨by have := HJ4.out; have := HJ7.out; have := HJ12.out; first | omega | exact Nat.le_refl _⟩, ⟨by (with_reducible repeat (first | refine blk_drewN ?_ _ | refine blk_drew ?_ | refine blk_alloc ?_ _)); exact BK163.out⟩, ⟨by repeat (first | (with_reducible first | exact HB.out | apply below_alloc | apply pw_below_drewN | apply below_drew1 | refine below_set ?_ GE163.out) | exact HB.out)⟩⟩
                          case rest =>
                            clear HC47
                            try clear c1
                            try clear c2
                            try clear p2
                            try clear c3
                            try clear c4
                            try clear p6
                            try clear c7
                            try clear c8
                            try clear c9
                            try clear c9b0
                            try clear c9b1
                            try clear c12
                            try clear c14
                            try clear c14b0
                            try clear c14b1
                            try clear c17
                            try clear c18
                            try clear c18b0
                            try clear c18b1
                            try clear c20
                            try clear c21
                            try clear c21b0
                            try clear c21b1
                            try clear c27
                            try clear c27b0
                            try clear c27b1
                            try clear c29
                            try clear c31
                            try clear c35
                            try clear c35b0
                            try clear c35b1
                            try clear c37
                            try clear c41
                            try clear c41b0
                            try clear c41b1
                            try clear c43
                            try clear c48
                            try clear c49
                            try clear c49b0
                            try clear c49b1
                            try clear hcz10_0
                            try clear hcz10_1
                            try clear hcz10_2
                            try clear hcz10_3
                            try clear hcz10_4
                            try clear hcz11_0
                            try clear hcz11_1
                            try clear hcz11_2
                            try clear hcz11_3
                            try clear hcz11_4
                            try clear hcz15_0
                            try clear hcz15_1
                            try clear hcz15_2
                            try clear hcz15_3
                            try clear hcz15_4
                            try clear hcz16_0
                            try clear hcz16_1
                            try clear hcz16_2
                            try clear hcz16_3
                            try clear hcz16_4
                            try clear hcz23_0
                            try clear hcz23_1
                            try clear hcz23_2
                            try clear hcz23_3
                            try clear hcz23_4
                            try clear hcz25_0
                            try clear hcz25_1
                            try clear hcz25_2
                            try clear hcz25_3
                            try clear hcz25_4
                            try clear hcz26_0
                            try clear hcz26_1
                            try clear hcz26_2
                            try clear hcz26_3
                            try clear hcz26_4
                            try clear hcz32_0
                            try clear hcz32_1
                            try clear hcz32_2
                            try clear hcz32_3
                            try clear hcz32_4
                            try clear hcz33_0
                            try clear hcz33_1
                            try clear hcz33_2
                            try clear hcz33_3
                            try clear hcz33_4
                            try clear hcz34_0
                            try clear hcz34_1
                            try clear hcz34_2
                            try clear hcz34_3
                            try clear hcz34_4
                            try clear hcz39_0
                            try clear hcz39_1
                            try clear hcz39_2
                            try clear hcz39_3
                            try clear hcz39_4
                            try clear hcz40_0
                            try clear hcz40_1
                            try clear hcz40_2
                            try clear hcz40_3
                            try clear hcz40_4
                            try clear hcz45_0
                            try clear hcz45_1
                            try clear hcz45_2
                            try clear hcz45_3
                            try clear hcz45_4
                            try clear hcz46_0
                            try clear hcz46_1
                            try clear hcz46_2
                            try clear hcz46_3
                            try clear hcz46_4
                            try clear hcz48_0
                            try clear hcz48_1
                            try clear hcz48_2
                            try clear hcz48_3
                            try clear hcz48_4
                            try clear hfz10_0
                            try clear hfz10_1
                            try clear hfz10_2
                            try clear hfz10_3
                            try clear hfz10_4
                            try clear hfz11_0
                            try clear hfz11_1
                            try clear hfz11_2
                            try clear hfz11_3
                            try clear hfz11_4
                            try clear hfz15_0
                            try clear hfz15_1
                            try clear hfz15_2
                            try clear hfz15_3
                            try clear hfz15_4
                            try clear hfz16_0
                            try clear hfz16_1
                            try clear hfz16_2
                            try clear hfz16_3
                            try clear hfz16_4
                            try clear hfz23_0
                            try clear hfz23_1
                            try clear hfz23_2
                            try clear hfz23_3
                            try clear hfz23_4
                            try clear hfz25_0
                            try clear hfz25_1
                            try clear hfz25_2
                            try clear hfz25_3
                            try clear hfz25_4
                            try clear hfz26_0
                            try clear hfz26_1
                            try clear hfz26_2
                            try clear hfz26_3
                            try clear hfz26_4
                            try clear hfz32_0
                            try clear hfz32_1
                            try clear hfz32_2
                            try clear hfz32_3
                            try clear hfz32_4
                            try clear hfz33_0
                            try clear hfz33_1
                            try clear hfz33_2
                            try clear hfz33_3
                            try clear hfz33_4
                            try clear hfz34_0
                            try clear hfz34_1
                            try clear hfz34_2
                            try clear hfz34_3
                            try clear hfz34_4
                            try clear hfz39_0
                            try clear hfz39_1
                            try clear hfz39_2
                            try clear hfz39_3
                            try clear hfz39_4
                            try clear hfz40_0
                            try clear hfz40_1
                            try clear hfz40_2
                            try clear hfz40_3
                            try clear hfz40_4
                            try clear hfz45_0
                            try clear hfz45_1
                            try clear hfz45_2
                            try clear hfz45_3
                            try clear hfz45_4
                            try clear hfz46_0
                            try clear hfz46_1
                            try clear hfz46_2
                            try clear hfz46_3
                            try clear hfz46_4
                            try clear hfz48_0
                            try clear hfz48_1
                            try clear hfz48_2
                            try clear hfz48_3
                            try clear hfz48_4
                            try clear p2
                            obtain ⟨kq, x95_46, rfl, HA, HJ46, BK163, HB⟩ := hcut
                            cases kq with
                            | zero => exact absurd HA.out (by simp [thistleref12_inst.j3])
                            | succ kj46 =>
                              have H := HA.out
                              clear HA
                              simp only [thistleref12_inst.j3] at H
                              by_cases c50 : x95_46 = true
                              · subst c50
                                have H1 : ((thistleref12_within.f a0_2 0 (wrap64 (a1 - 1))).bind fun t172 => (if t172 = true then ((thistleref12_within.f a0_4 0 63).bind fun t173 => (some t173)) else (some false))) = some r := by rw [if_pos rfl] at H; exact H
                                clear H
                                have H := H1
                                clear H1
                                replace H := Option.bind_eq_some_iff.mp H
                                obtain ⟨t172, A510, H⟩ := H
                                replace H : (if t172 = true then ((thistleref12_within.f a0_4 0 63).bind fun t173 => (some t173)) else (some false)) = some r := H
                                have A51 := Aside0.mk A510
                                clear A510
                                by_cases c52 : t172 = true
                                · subst c52
                                  have H1 : ((thistleref12_within.f a0_4 0 63).bind fun t173 => (some t173)) = some r := by rw [if_pos rfl] at H; exact H
                                  clear H
                                  have H := H1
                                  clear H1
                                  replace H := Option.bind_eq_some_iff.mp H
                                  obtain ⟨t173, A530, H⟩ := H
                                  replace H : (some t173) = some r := H
                                  have A53 := Aside0.mk A530
                                  clear A530
                                  obtain rfl := Option.some.inj H
                                  have hcz54_0 : wc.cell? ⟨gb163, 0, none⟩ = some (.int .i64 a0_0) := (blk_cell BK163.out 0).trans rfl
                                  have hcz54_1 : wc.cell? ⟨gb163, 1, none⟩ = some (.slice A0_1 l0_1.length c0_1) := (blk_cell BK163.out 1).trans rfl
                                  have hcz54_2 : wc.cell? ⟨gb163, 2, none⟩ = some (.int .i64 a0_2) := (blk_cell BK163.out 2).trans rfl
                                  have hcz54_3 : wc.cell? ⟨gb163, 3, none⟩ = some (.int .i64 a0_3) := (blk_cell BK163.out 3).trans rfl
                                  have hcz54_4 : wc.cell? ⟨gb163, 4, none⟩ = some (.int .i64 a0_4) := (blk_cell BK163.out 4).trans rfl
                                  have hfz54_0 := blk_frozen BK163.out 0
                                  have hfz54_1 := blk_frozen BK163.out 1
                                  have hfz54_2 := blk_frozen BK163.out 2
                                  have hfz54_3 := blk_frozen BK163.out 3
                                  have hfz54_4 := blk_frozen BK163.out 4
                                  go_wp2_with (first | ((with_reducible refine gate_callee (f := 85) rfl ?_); refine goesL_ (some 102) rfl rfl Tryd.func85 (by kernel_rfl) rfl #[.int .i64 a0_2, .int .i64 0, .int .i64 (wrap64 (a1 - 1))] rfl (by (try simp only [List.map_toArray, List.map_cons, List.map_nil]); first | done | rfl | (simp only [List.length_drop, List.length_take]; rfl)) ?_; (with_reducible refine (thistleref12_within.calls a0_2 0 (wrap64 (a1 - 1)) true _ A51.out).mono ?_); rintro e w' ⟨rfl, ⟨nd, rfl⟩⟩; refine ⟨_, rfl, ?_⟩) | (go_at_call 85; (with_reducible refine (thistleref12_within.calls a0_4 0 63 t173 _ A53.out).mono ?_); rintro e w' ⟨rfl, ⟨nd, rfl⟩⟩))
                                  go_ret
                                  exact ⟨by first | rfl | (simp [errW_none, errW_some] <;> rfl) | (simp [*, errW_none, errW_some] <;> rfl), by repeat (first | (with_reducible first | exact HB.out | apply below_alloc | apply pw_below_drewN | apply below_drew1 | refine below_set ?_ GE163.out) | exact HB.out)⟩
                                · replace c52 := Bool.eq_false_iff.mpr c52
                                  subst c52
                                  have H1 : (some false) = some r := by rw [if_neg (show ¬ (false = true) by decide)] at H; exact H
                                  clear H
                                  have H := H1
                                  clear H1
                                  obtain rfl := Option.some.inj H
                                  have hcz55_0 : wc.cell? ⟨gb163, 0, none⟩ = some (.int .i64 a0_0) := (blk_cell BK163.out 0).trans rfl
                                  have hcz55_1 : wc.cell? ⟨gb163, 1, none⟩ = some (.slice A0_1 l0_1.length c0_1) := (blk_cell BK163.out 1).trans rfl
                                  have hcz55_2 : wc.cell? ⟨gb163, 2, none⟩ = some (.int .i64 a0_2) := (blk_cell BK163.out 2).trans rfl
                                  have hcz55_3 : wc.cell? ⟨gb163, 3, none⟩ = some (.int .i64 a0_3) := (blk_cell BK163.out 3).trans rfl
                                  have hcz55_4 : wc.cell? ⟨gb163, 4, none⟩ = some (.int .i64 a0_4) := (blk_cell BK163.out 4).trans rfl
                                  have hfz55_0 := blk_frozen BK163.out 0
                                  have hfz55_1 := blk_frozen BK163.out 1
                                  have hfz55_2 := blk_frozen BK163.out 2
                                  have hfz55_3 := blk_frozen BK163.out 3
                                  have hfz55_4 := blk_frozen BK163.out 4
                                  go_wp2_with (first | ((with_reducible refine gate_callee (f := 85) rfl ?_); refine goesL_ (some 102) rfl rfl Tryd.func85 (by kernel_rfl) rfl #[.int .i64 a0_2, .int .i64 0, .int .i64 (wrap64 (a1 - 1))] rfl (by (try simp only [List.map_toArray, List.map_cons, List.map_nil]); first | done | rfl | (simp only [List.length_drop, List.length_take]; rfl)) ?_; (with_reducible refine (thistleref12_within.calls a0_2 0 (wrap64 (a1 - 1)) false _ A51.out).mono ?_); rintro e w' ⟨rfl, ⟨nd, rfl⟩⟩; refine ⟨_, rfl, ?_⟩))
                                  go_ret
                                  exact ⟨by first | rfl | (simp [errW_none, errW_some] <;> rfl) | (simp [*, errW_none, errW_some] <;> rfl), by repeat (first | (with_reducible first | exact HB.out | apply below_alloc | apply pw_below_drewN | apply below_drew1 | refine below_set ?_ GE163.out) | exact HB.out)⟩
                              · replace c50 := Bool.eq_false_iff.mpr c50
                                subst c50
                                have H1 : (if a0_0 = 9 then ((thistleref12_within.f a0_2 0 (wrap64 (a1 - 1))).bind fun t174 => (if t174 = true then (some (a0_4 == 0)) else (some false))) else (if a0_0 = 7 then (if a0_2 = 0 then (some (a0_4 == 0)) else (some false)) else (if a0_0 = 8 then (if a0_2 = 0 then (some (a0_4 == 0)) else (some false)) else (some false)))) = some r := by rw [if_neg (show ¬ (false = true) by decide)] at H; exact H
                                clear H
                                have H := H1
                                clear H1
                                by_cases c56 : a0_0 = 9
                                · rw [if_pos c56] at H
                                  have c56b0 : (a0_0 == 9) = true := beq_iff_eq.mpr c56
                                  have c56b1 : (a0_0 != 9) = false := bne_eq_false_iff_eq.mpr c56
                                  clear c56
                                  replace H := Option.bind_eq_some_iff.mp H
                                  obtain ⟨t174, A570, H⟩ := H
                                  replace H : (if t174 = true then (some (a0_4 == 0)) else (some false)) = some r := H
                                  have A57 := Aside0.mk A570
                                  clear A570
                                  by_cases c58 : t174 = true
                                  · subst c58
                                    have H1 : (some (a0_4 == 0)) = some r := by rw [if_pos rfl] at H; exact H
                                    clear H
                                    have H := H1
                                    clear H1
                                    obtain rfl := Option.some.inj H
                                    have hcz59_0 : wc.cell? ⟨gb163, 0, none⟩ = some (.int .i64 a0_0) := (blk_cell BK163.out 0).trans rfl
                                    have hcz59_1 : wc.cell? ⟨gb163, 1, none⟩ = some (.slice A0_1 l0_1.length c0_1) := (blk_cell BK163.out 1).trans rfl
                                    have hcz59_2 : wc.cell? ⟨gb163, 2, none⟩ = some (.int .i64 a0_2) := (blk_cell BK163.out 2).trans rfl
                                    have hcz59_3 : wc.cell? ⟨gb163, 3, none⟩ = some (.int .i64 a0_3) := (blk_cell BK163.out 3).trans rfl
                                    have hcz59_4 : wc.cell? ⟨gb163, 4, none⟩ = some (.int .i64 a0_4) := (blk_cell BK163.out 4).trans rfl
                                    have hfz59_0 := blk_frozen BK163.out 0
                                    have hfz59_1 := blk_frozen BK163.out 1
                                    have hfz59_2 := blk_frozen BK163.out 2
                                    have hfz59_3 := blk_frozen BK163.out 3
                                    have hfz59_4 := blk_frozen BK163.out 4
                                    go_wp2_with (first | ((with_reducible refine gate_callee (f := 85) rfl ?_); refine goesL_ (some 114) rfl rfl Tryd.func85 (by kernel_rfl) rfl #[.int .i64 a0_2, .int .i64 0, .int .i64 (wrap64 (a1 - 1))] rfl (by (try simp only [List.map_toArray, List.map_cons, List.map_nil]); first | done | rfl | (simp only [List.length_drop, List.length_take]; rfl)) ?_; (with_reducible refine (thistleref12_within.calls a0_2 0 (wrap64 (a1 - 1)) true _ A57.out).mono ?_); rintro e w' ⟨rfl, ⟨nd, rfl⟩⟩; refine ⟨_, rfl, ?_⟩))
                                    go_ret
                                    exact ⟨by first | rfl | (simp [errW_none, errW_some] <;> rfl) | (simp [*, errW_none, errW_some] <;> rfl), by repeat (first | (with_reducible first | exact HB.out | apply below_alloc | apply pw_below_drewN | apply below_drew1 | refine below_set ?_ GE163.out) | exact HB.out)⟩
                                  · replace c58 := Bool.eq_false_iff.mpr c58
                                    subst c58
                                    have H1 : (some false) = some r := by rw [if_neg (show ¬ (false = true) by decide)] at H; exact H
                                    clear H
                                    have H := H1
                                    clear H1
                                    obtain rfl := Option.some.inj H
                                    have hcz60_0 : wc.cell? ⟨gb163, 0, none⟩ = some (.int .i64 a0_0) := (blk_cell BK163.out 0).trans rfl
                                    have hcz60_1 : wc.cell? ⟨gb163, 1, none⟩ = some (.slice A0_1 l0_1.length c0_1) := (blk_cell BK163.out 1).trans rfl
                                    have hcz60_2 : wc.cell? ⟨gb163, 2, none⟩ = some (.int .i64 a0_2) := (blk_cell BK163.out 2).trans rfl
                                    have hcz60_3 : wc.cell? ⟨gb163, 3, none⟩ = some (.int .i64 a0_3) := (blk_cell BK163.out 3).trans rfl
                                    have hcz60_4 : wc.cell? ⟨gb163, 4, none⟩ = some (.int .i64 a0_4) := (blk_cell BK163.out 4).trans rfl
                                    have hfz60_0 := blk_frozen BK163.out 0
                                    have hfz60_1 := blk_frozen BK163.out 1
                                    have hfz60_2 := blk_frozen BK163.out 2
                                    have hfz60_3 := blk_frozen BK163.out 3
                                    have hfz60_4 := blk_frozen BK163.out 4
                                    go_wp2_with (first | ((with_reducible refine gate_callee (f := 85) rfl ?_); refine goesL_ (some 114) rfl rfl Tryd.func85 (by kernel_rfl) rfl #[.int .i64 a0_2, .int .i64 0, .int .i64 (wrap64 (a1 - 1))] rfl (by (try simp only [List.map_toArray, List.map_cons, List.map_nil]); first | done | rfl | (simp only [List.length_drop, List.length_take]; rfl)) ?_; (with_reducible refine (thistleref12_within.calls a0_2 0 (wrap64 (a1 - 1)) false _ A57.out).mono ?_); rintro e w' ⟨rfl, ⟨nd, rfl⟩⟩; refine ⟨_, rfl, ?_⟩))
                                    go_ret
                                    exact ⟨by first | rfl | (simp [errW_none, errW_some] <;> rfl) | (simp [*, errW_none, errW_some] <;> rfl), by repeat (first | (with_reducible first | exact HB.out | apply below_alloc | apply pw_below_drewN | apply below_drew1 | refine below_set ?_ GE163.out) | exact HB.out)⟩
                                · rw [if_neg c56] at H
                                  have c56b0 : (a0_0 == 9) = false := beq_eq_false_iff_ne.mpr c56
                                  have c56b1 : (a0_0 != 9) = true := bne_iff_ne.mpr c56
                                  by_cases c61 : a0_0 = 7
                                  · rw [if_pos c61] at H
                                    have c61b0 : (a0_0 == 7) = true := beq_iff_eq.mpr c61
                                    have c61b1 : (a0_0 != 7) = false := bne_eq_false_iff_eq.mpr c61
                                    clear c61
                                    by_cases c62 : a0_2 = 0
                                    · rw [if_pos c62] at H
                                      have c62b0 : (a0_2 == 0) = true := beq_iff_eq.mpr c62
                                      have c62b1 : (a0_2 != 0) = false := bne_eq_false_iff_eq.mpr c62
                                      clear c62
                                      obtain rfl := Option.some.inj H
                                      have hcz63_0 : wc.cell? ⟨gb163, 0, none⟩ = some (.int .i64 a0_0) := (blk_cell BK163.out 0).trans rfl
                                      have hcz63_1 : wc.cell? ⟨gb163, 1, none⟩ = some (.slice A0_1 l0_1.length c0_1) := (blk_cell BK163.out 1).trans rfl
                                      have hcz63_2 : wc.cell? ⟨gb163, 2, none⟩ = some (.int .i64 a0_2) := (blk_cell BK163.out 2).trans rfl
                                      have hcz63_3 : wc.cell? ⟨gb163, 3, none⟩ = some (.int .i64 a0_3) := (blk_cell BK163.out 3).trans rfl
                                      have hcz63_4 : wc.cell? ⟨gb163, 4, none⟩ = some (.int .i64 a0_4) := (blk_cell BK163.out 4).trans rfl
                                      have hfz63_0 := blk_frozen BK163.out 0
                                      have hfz63_1 := blk_frozen BK163.out 1
                                      have hfz63_2 := blk_frozen BK163.out 2
                                      have hfz63_3 := blk_frozen BK163.out 3
                                      have hfz63_4 := blk_frozen BK163.out 4
                                      go_wp2
                                      go_ret
                                      exact ⟨by first | rfl | (simp [errW_none, errW_some] <;> rfl) | (simp [*, errW_none, errW_some] <;> rfl), by repeat (first | (with_reducible first | exact HB.out | apply below_alloc | apply pw_below_drewN | apply below_drew1 | refine below_set ?_ GE163.out) | exact HB.out)⟩
                                    · rw [if_neg c62] at H
                                      have c62b0 : (a0_2 == 0) = false := beq_eq_false_iff_ne.mpr c62
                                      have c62b1 : (a0_2 != 0) = true := bne_iff_ne.mpr c62
                                      obtain rfl := Option.some.inj H
                                      have hcz64_0 : wc.cell? ⟨gb163, 0, none⟩ = some (.int .i64 a0_0) := (blk_cell BK163.out 0).trans rfl
                                      have hcz64_1 : wc.cell? ⟨gb163, 1, none⟩ = some (.slice A0_1 l0_1.length c0_1) := (blk_cell BK163.out 1).trans rfl
                                      have hcz64_2 : wc.cell? ⟨gb163, 2, none⟩ = some (.int .i64 a0_2) := (blk_cell BK163.out 2).trans rfl
                                      have hcz64_3 : wc.cell? ⟨gb163, 3, none⟩ = some (.int .i64 a0_3) := (blk_cell BK163.out 3).trans rfl
                                      have hcz64_4 : wc.cell? ⟨gb163, 4, none⟩ = some (.int .i64 a0_4) := (blk_cell BK163.out 4).trans rfl
                                      have hfz64_0 := blk_frozen BK163.out 0
                                      have hfz64_1 := blk_frozen BK163.out 1
                                      have hfz64_2 := blk_frozen BK163.out 2
                                      have hfz64_3 := blk_frozen BK163.out 3
                                      have hfz64_4 := blk_frozen BK163.out 4
                                      go_wp2
                                      go_ret
                                      exact ⟨by first | rfl | (simp [errW_none, errW_some] <;> rfl) | (simp [*, errW_none, errW_some] <;> rfl), by repeat (first | (with_reducible first | exact HB.out | apply below_alloc | apply pw_below_drewN | apply below_drew1 | refine below_set ?_ GE163.out) | exact HB.out)⟩
                                  · rw [if_neg c61] at H
                                    have c61b0 : (a0_0 == 7) = false := beq_eq_false_iff_ne.mpr c61
                                    have c61b1 : (a0_0 != 7) = true := bne_iff_ne.mpr c61
                                    by_cases c65 : a0_0 = 8
                                    · rw [if_pos c65] at H
                                      have c65b0 : (a0_0 == 8) = true := beq_iff_eq.mpr c65
                                      have c65b1 : (a0_0 != 8) = false := bne_eq_false_iff_eq.mpr c65
                                      clear c65
                                      by_cases c66 : a0_2 = 0
                                      · rw [if_pos c66] at H
                                        have c66b0 : (a0_2 == 0) = true := beq_iff_eq.mpr c66
                                        have c66b1 : (a0_2 != 0) = false := bne_eq_false_iff_eq.mpr c66
                                        clear c66
                                        obtain rfl := Option.some.inj H
                                        have hcz67_0 : wc.cell? ⟨gb163, 0, none⟩ = some (.int .i64 a0_0) := (blk_cell BK163.out 0).trans rfl
                                        have hcz67_1 : wc.cell? ⟨gb163, 1, none⟩ = some (.slice A0_1 l0_1.length c0_1) := (blk_cell BK163.out 1).trans rfl
                                        have hcz67_2 : wc.cell? ⟨gb163, 2, none⟩ = some (.int .i64 a0_2) := (blk_cell BK163.out 2).trans rfl
                                        have hcz67_3 : wc.cell? ⟨gb163, 3, none⟩ = some (.int .i64 a0_3) := (blk_cell BK163.out 3).trans rfl
                                        have hcz67_4 : wc.cell? ⟨gb163, 4, none⟩ = some (.int .i64 a0_4) := (blk_cell BK163.out 4).trans rfl
                                        have hfz67_0 := blk_frozen BK163.out 0
                                        have hfz67_1 := blk_frozen BK163.out 1
                                        have hfz67_2 := blk_frozen BK163.out 2
                                        have hfz67_3 := blk_frozen BK163.out 3
                                        have hfz67_4 := blk_frozen BK163.out 4
                                        go_wp2
                                        go_ret
                                        exact ⟨by first | rfl | (simp [errW_none, errW_some] <;> rfl) | (simp [*, errW_none, errW_some] <;> rfl), by repeat (first | (with_reducible first | exact HB.out | apply below_alloc | apply pw_below_drewN | apply below_drew1 | refine below_set ?_ GE163.out) | exact HB.out)⟩
                                      · rw [if_neg c66] at H
                                        have c66b0 : (a0_2 == 0) = false := beq_eq_false_iff_ne.mpr c66
                                        have c66b1 : (a0_2 != 0) = true := bne_iff_ne.mpr c66
                                        obtain rfl := Option.some.inj H
                                        have hcz68_0 : wc.cell? ⟨gb163, 0, none⟩ = some (.int .i64 a0_0) := (blk_cell BK163.out 0).trans rfl
                                        have hcz68_1 : wc.cell? ⟨gb163, 1, none⟩ = some (.slice A0_1 l0_1.length c0_1) := (blk_cell BK163.out 1).trans rfl
                                        have hcz68_2 : wc.cell? ⟨gb163, 2, none⟩ = some (.int .i64 a0_2) := (blk_cell BK163.out 2).trans rfl
                                        have hcz68_3 : wc.cell? ⟨gb163, 3, none⟩ = some (.int .i64 a0_3) := (blk_cell BK163.out 3).trans rfl
                                        have hcz68_4 : wc.cell? ⟨gb163, 4, none⟩ = some (.int .i64 a0_4) := (blk_cell BK163.out 4).trans rfl
                                        have hfz68_0 := blk_frozen BK163.out 0
                                        have hfz68_1 := blk_frozen BK163.out 1
                                        have hfz68_2 := blk_frozen BK163.out 2
                                        have hfz68_3 := blk_frozen BK163.out 3
                                        have hfz68_4 := blk_frozen BK163.out 4
                                        go_wp2
                                        go_ret
                                        exact ⟨by first | rfl | (simp [errW_none, errW_some] <;> rfl) | (simp [*, errW_none, errW_some] <;> rfl), by repeat (first | (with_reducible first | exact HB.out | apply below_alloc | apply pw_below_drewN | apply below_drew1 | refine below_set ?_ GE163.out) | exact HB.out)⟩
                                    · rw [if_neg c65] at H
                                      have c65b0 : (a0_0 == 8) = false := beq_eq_false_iff_ne.mpr c65
                                      have c65b1 : (a0_0 != 8) = true := bne_iff_ne.mpr c65
                                      obtain rfl := Option.some.inj H
                                      go_wp2
                                      go_ret
                                      exact ⟨by first | rfl | (simp [errW_none, errW_some] <;> rfl) | (simp [*, errW_none, errW_some] <;> rfl), by repeat (first | (with_reducible first | exact HB.out | apply below_alloc | apply pw_below_drewN | apply below_drew1 | refine below_set ?_ GE163.out) | exact HB.out)⟩

end Go.Proofs.YtmbboianghbjkaaDoor.PProgChecks
