-- PRINTED BY print.sh 35421559b90ae4d0a3588c463048766b98c2df88dd9212a6774a882060cdf62d: not written by this session
import Derived.Test.YtmbboianghbjkaaDoorPProgChecksx0
namespace Go.Proofs.YtmbboianghbjkaaDoor.PProgChecks
open Go.RowKit Go.Proofs.YtmbboianghbjkaaDoorW.PrintWords Go.Proofs.YtmbboianghbjkaaDoorW.PrintLast Go.Proofs.YtmbboianghbjkaaDoorW.PrintMore
attribute [local go_sem] max2_int min2_int max_two min_two max_three min_three max_four min_four   -- for this text's walks alone
set_option linter.unusedVariables false
set_option linter.unusedSimpArgs false

/-! ### thistleref02_CopyProg: function 30 -/
def thistleref02_CopyProg.l0 : Nat → Int → List (S47) → List ByteArray → Bool → List (S47) → List ByteArray → Bool → Option ((List (S47)) × List ByteArray × Bool)
  | 0, _, _, _, _, _, _, _ => none
  | k + 1, x4, x184000, x184001, x184002, x192000, x192001, x192002 => if x4 < (x184000.length : Int) then (if 0 ≤ x4 then ((some (([] : List (S96)) : List (S96))).bind fun y194 => (if y194.length + ((rd_T47 x184000 x4).f1).length < 17592186044416 then (if x192000.length < 2513169434916 then (thistleref02_CopyProg.l0 k (wrap64 (x4 + 1)) x184000 x184001 x184002 (x192000 ++ [(⟨(rd_T47 x184000 x4).f0, (y194 ++ ((rd_T47 x184000 x4).f1)), (rd_T47 x184000 x4).f2, (rd_T47 x184000 x4).f3, (rd_T47 x184000 x4).f4⟩ : S47)]) x192001 x192002) else (none)) else (none))) else (none)) else (some (x192000, x192001, x192002))
def thistleref02_CopyProg.f (k : Nat) (l0_0 : List (S47)) (l0_1 : List ByteArray) (a0_2 : Bool) : Option ((List (S47)) × List ByteArray × Bool) := (some (([] : List ByteArray) : List ByteArray)).bind fun y185 => (if y185.length + l0_1.length < 8796093022208 then (thistleref02_CopyProg.l0 k 0 l0_0 l0_1 a0_2 ([] : List (S47)) (y185 ++ l0_1) a0_2) else (none))
theorem thistleref02_CopyProg.mono_l : ∀ k, (∀ y0 y1 y2 y3 y4 y5 y6, LeO (thistleref02_CopyProg.l0 k y0 y1 y2 y3 y4 y5 y6) (thistleref02_CopyProg.l0 (k + 1) y0 y1 y2 y3 y4 y5 y6))
  | 0 => fun _ _ _ _ _ _ _ r h => by simp [thistleref02_CopyProg.l0] at h
  | k + 1 => by
    have ih0 := thistleref02_CopyProg.mono_l k
    · intro y0 y1 y2 y3 y4 y5 y6
      unfold thistleref02_CopyProg.l0
      repeat' first
      | (with_reducible exact ih0 _ _ _ _ _ _ _)
      | (with_reducible exact LeO.refl _)
      | (with_reducible exact LeO.none _)
      | (with_reducible refine LeO.ite ?_ ?_)
      | (with_reducible refine LeO.bind ?_ (fun _ => ?_))
      | exact ih0 _ _ _ _ _ _ _
      | exact LeO.none _
      | refine LeO.ite ?_ ?_
      | refine LeO.bind ?_ (fun _ => ?_)
theorem thistleref02_CopyProg.mono : ∀ a0 a1 a2 k, LeO (thistleref02_CopyProg.f k a0 a1 a2) (thistleref02_CopyProg.f (k + 1) a0 a1 a2) := by
  intro a0 a1 a2 k
  have ih0 := thistleref02_CopyProg.mono_l k
  unfold thistleref02_CopyProg.f
  repeat' first
      | (with_reducible exact ih0 _ _ _ _ _ _ _)
      | (with_reducible exact LeO.refl _)
      | (with_reducible exact LeO.none _)
      | (with_reducible refine LeO.ite ?_ ?_)
      | (with_reducible refine LeO.bind ?_ (fun _ => ?_))
      | exact ih0 _ _ _ _ _ _ _
      | exact LeO.none _
      | refine LeO.ite ?_ ?_
      | refine LeO.bind ?_ (fun _ => ?_)
def thistleref02_CopyProg.T1 : Bool × List (List Nat × List Nat) := (true, [([], []), ([0], [0]), ([], []), ([], []), ([3], [3]), ([2, 4], [2, 4]), ([1, 5], [1, 5]), ([], []), ([7, 6, 5, 0, 1, 2, 3, 4, 5, 6, 7], [6, 7])])
def thistleref02_CopyProg.B1 : List Nat := [0, 1, 0, 0, 8, 28, 63, 0, 255]
theorem thistleref02_CopyProg.tab1 : rtab .any (opsOf Tryd.f30 1) = thistleref02_CopyProg.T1 := by kernel_rfl
theorem thistleref02_CopyProg.bits1 : waitsOk thistleref02_CopyProg.T1.2 thistleref02_CopyProg.B1 = true := by kernel_rfl
set_option maxHeartbeats 8000000 in
set_option maxRecDepth 100000 in
theorem thistleref02_CopyProg.calls (k : Nat) (A0_0 : Option Addr) (c0_0 : Nat) (l0_0 : List (S47)) (A0_1 : Option Addr) (c0_1 : Nat) (l0_1 : List ByteArray) (a0_2 : Bool) (r1 : List (S47)) (r2 : List ByteArray) (r3 : Bool) (w : World) (hr0_0 : Kd.C k47 w A0_0 l0_0.length l0_0) (hc0_0 : l0_0.length ≤ c0_0) (hr0_1 : Kd.C Kd.string w A0_1 l0_1.length l0_1) (hc0_1 : l0_1.length ≤ c0_1) (h : thistleref02_CopyProg.f k l0_0 l0_1 a0_2 = some (r1, r2, r3)) :
    Calls Tryd.prog 30 #[.agg #[.slice A0_0 l0_0.length c0_0, .slice A0_1 l0_1.length c0_1, .bool a0_2]] w fun e w' => ∃ v0_ v1_ : Value, e = .returned (.agg #[v0_, v1_, .bool r3]) ∧ Kd.S k47 47 w' w.heap.size (fun _ => True) v0_ r1 ∧ Kd.R Kd.string 9 w' w.heap.size (fun _ => True) v1_ r2 ∧ Below w.heap.size w w' := by
  have hu41 := Tryd.underlying41
  have hu47 := Tryd.underlying47
  have HR0_0 := Aside0.mk hr0_0
  have HC0_0 := Aside0.mk hc0_0
  clear hr0_0 hc0_0
  have HR0_1 := Aside0.mk hr0_1
  have HC0_1 := Aside0.mk hc0_1
  clear hr0_1 hc0_1
  have HB := Aside0.mk (Below.refl w.heap.size w)
  have H : ((some (([] : List ByteArray) : List ByteArray)).bind fun y185 => (if y185.length + l0_1.length < 8796093022208 then (thistleref02_CopyProg.l0 k 0 l0_0 l0_1 a0_2 ([] : List (S47)) (y185 ++ l0_1) a0_2) else (none))) = some (r1, r2, r3) := h
  clear h
  obtain ⟨y185, hy185⟩ : ∃ y_ : List ByteArray, y_ = (([] : List ByteArray)) := ⟨_, rfl⟩
  replace H : (if y185.length + l0_1.length < 8796093022208 then (thistleref02_CopyProg.l0 k 0 l0_0 l0_1 a0_2 ([] : List (S47)) (y185 ++ l0_1) a0_2) else (none)) = some (r1, r2, r3) := by first | (rw [hy185]; with_reducible exact H) | (have H2_ := (Option.bind_some _ _).symm.trans H; rw [hy185]; with_reducible exact H2_) | (have H2_ := (Option.bind_some _ _).symm.trans H; with_reducible exact H2_) | with_reducible exact H | (rw [hy185]; exact H) | exact H
  have Ny185 := Aside0.mk hy185
  clear hy185
  by_cases c2 : y185.length + l0_1.length < 8796093022208
  · rw [if_pos c2] at H
    have LMc2 := Aside0.mk c2
    clear c2
    obtain ⟨y188, hy188⟩ : ∃ y_ : List ByteArray, y_ = (y185 ++ l0_1) := ⟨_, rfl⟩
    replace H : (thistleref02_CopyProg.l0 k 0 l0_0 l0_1 a0_2 ([] : List (S47)) y188 a0_2) = some (r1, r2, r3) := by first | (rw [hy188]; with_reducible exact H) | (have H2_ := (Option.bind_some _ _).symm.trans H; rw [hy188]; with_reducible exact H2_) | (have H2_ := (Option.bind_some _ _).symm.trans H; with_reducible exact H2_) | with_reducible exact H | (rw [hy188]; exact H) | exact H
    have Ny188 := Aside0.mk hy188
    clear hy188
    have H' := Aside0.mk H
    clear H
    go_enter Tryd.func30, Tryd.ntmps30
    try go_wp2_with (first | ((with_reducible refine gate_dst (N := 1) rfl ?_); refine box_event ?hg (N := 1) ?hd (cs := #[.slice A0_0 l0_0.length c0_0, .slice A0_1 l0_1.length c0_1, .bool a0_2]) (t := 41) ?hr ?_; (case hd => rfl); (case hg => rfl); (case hr => first | (go_simp; done) | (go_simp; rfl)); intro gb183 hg w3 hbox hb; have n0_ := Aside0.mk (below_step (by repeat (first | (with_reducible first | exact HB.out | apply below_alloc | apply pw_below_drewN | apply below_drew1) | exact HB.out)) hb); have n1_ := Aside0.mk (hbox); have n2_ := Aside0.mk ((by rw [hg]; exact (below_size (by repeat (first | (with_reducible first | exact HB.out | apply below_alloc | apply pw_below_drewN | apply below_drew1) | exact HB.out))) : w.heap.size ≤ gb183)); have n3_ := Aside0.mk ((by rw [hg]; exact (below_size (by repeat (first | (with_reducible first | exact HB.out | apply below_alloc | apply pw_below_drewN | apply below_drew1) | exact HB.out))) : w.heap.size ≤ gb183)); clear HB; have HB := n0_; have BK183 := n1_; have GW183 := n2_; have GE183 := n3_; clear n0_ n1_ n2_ n3_; clear hb hbox hg) | ((with_reducible refine gate_dst (N := 2) rfl ?_); refine box_event ?hg (N := 2) ?hd (cs := #[.slice none 0 0, .slice none 0 0, .bool false]) (t := 41) ?hr ?_; (case hd => rfl); (case hg => rfl); (case hr => first | (go_simp; done) | (go_simp; rfl)); intro gb184 hg w4 hbox hb; have n0_ := Aside0.mk (blk_below (g := gb183) (o := .cells #[.slice A0_0 l0_0.length c0_0, .slice A0_1 l0_1.length c0_1, .bool a0_2] 41 (0, 0)) (by (with_reducible repeat (first | refine blk_drewN ?_ _ | refine blk_drew ?_ | refine blk_alloc ?_ _)); exact BK183.out) hb); have n1_ := Aside0.mk (below_step (by repeat (first | (with_reducible first | exact HB.out | apply below_alloc | apply pw_below_drewN | apply below_drew1 | refine below_set ?_ GE183.out) | exact HB.out)) hb); have n2_ := Aside0.mk (hbox); have n3_ := Aside0.mk ((by rw [hg]; exact (below_size (by repeat (first | (with_reducible first | exact HB.out | apply below_alloc | apply pw_below_drewN | apply below_drew1 | refine below_set ?_ GE183.out) | exact HB.out))) : w.heap.size ≤ gb184)); have n4_ := Aside0.mk ((by rw [hg]; exact (below_size (by repeat (first | (with_reducible first | exact HB.out | apply below_alloc | apply pw_below_drewN | apply below_drew1 | refine below_set ?_ GE183.out) | exact HB.out))) : w.heap.size ≤ gb184)); have n5_ := Aside0.mk ((by rw [hg]; exact Nat.ne_of_lt (blk_lt (g := gb183) (o := .cells #[.slice A0_0 l0_0.length c0_0, .slice A0_1 l0_1.length c0_1, .bool a0_2] 41 (0, 0)) (by (with_reducible repeat (first | refine blk_drewN ?_ _ | refine blk_drew ?_ | refine blk_alloc ?_ _)); exact BK183.out)) : gb183 ≠ gb184)); have n6_ := Aside0.mk ((by rw [hg]; exact Nat.ne_of_gt (blk_lt (g := gb183) (o := .cells #[.slice A0_0 l0_0.length c0_0, .slice A0_1 l0_1.length c0_1, .bool a0_2] 41 (0, 0)) (by (with_reducible repeat (first | refine blk_drewN ?_ _ | refine blk_drew ?_ | refine blk_alloc ?_ _)); exact BK183.out)) : gb184 ≠ gb183)); clear BK183; clear HB; have BK183 := n0_; have HB := n1_; have BK184 := n2_; have GW184 := n3_; have GE184 := n4_; have NB183_184 := n5_; have NB184_183 := n6_; clear n0_ n1_ n2_ n3_ n4_ n5_ n6_; clear hb hbox hg))
    have n0_ := Aside0.mk (blk_drew BK183.out)
    have n1_ := Aside0.mk (blk_drew BK184.out)
    have n2_ := Aside0.mk (below_drew1 HB.out)
    clear BK183
    clear BK184
    clear HB
    have BK183 := n0_
    have BK184 := n1_
    have HB := n2_
    clear n0_ n1_ n2_
    refine start_ (n := 9) (S := fun w' => w'.cell? ⟨gb183, 0, none⟩ = some (.slice A0_0 l0_0.length c0_0) ∧ w'.cell? ⟨gb183, 1, none⟩ = some (.slice A0_1 l0_1.length c0_1) ∧ w'.cell? ⟨gb183, 2, none⟩ = some (.bool a0_2)) (ds := []) #[false, false, false, false, false, false, false, false, false] (by kernel_rfl) rfl rfl ⟨(blk_cell BK183.out 0).trans rfl, (blk_cell BK183.out 1).trans rfl, (blk_cell BK183.out 2).trans rfl⟩ (fun hHeld => ?_); refine with_tabW thistleref02_CopyProg.tab1 thistleref02_CopyProg.bits1 (fun HT_ HW_ => ?_)
    generalize w4.drew = w5 at BK183 BK184 HB hHeld ⊢
    refine pure_ (i := 0) (N := some 6) (v := ?_) (a' := ?_) #[true, false, false, false, false, false, false, false, false] rfl rfl (any_of HT_.out (by kernel_rfl)) (fun _ _ _ h => h) (Or.inl ⟨by rfl, ?_⟩) ?_ ?_
    rotate_left
    · intro w'
      go_simp
      with_reducible rfl
    rotate_left
    · simp only [Act.put, List.setIfInBounds_toArray, List.set_cons_zero, List.set_cons_succ, i64_w, i32_w]
      rfl
    refine pure_ (i := 3) (N := some 9) (v := ?_) (a' := ?_) #[true, false, false, true, false, false, false, false, false] rfl rfl (any_of HT_.out (by kernel_rfl)) (fun _ _ _ h => h) (Or.inl ⟨by rfl, ?_⟩) ?_ ?_
    rotate_left
    · intro w'
      go_simp
      with_reducible rfl
    rotate_left
    · simp only [Act.put, List.setIfInBounds_toArray, List.set_cons_zero, List.set_cons_succ, i64_w, i32_w]
      rfl
    refine take_ (i := 1) (N := some 7) (v := ?_) (a' := ?_) #[true, true, false, true, false, false, false, false, false] rfl rfl (take_ofW HT_.out HW_.out (by kernel_rfl)) (fun _ _ _ h => h) (Or.inl ⟨by rfl, ?_⟩) hHeld ?_ ?_
    rotate_left
    · rintro w' ⟨s0, s1, s2⟩
      go_simp
      with_reducible rfl
    rotate_left
    · simp only [Act.put, List.setIfInBounds_toArray, List.set_cons_zero, List.set_cons_succ, i64_w, i32_w]
      rfl
    refine take_ (i := 4) (N := some 10) (v := ?_) (a' := ?_) #[true, true, false, true, true, false, false, false, false] rfl rfl (take_ofW HT_.out HW_.out (by kernel_rfl)) (fun _ _ _ h => h) (Or.inl ⟨by rfl, ?_⟩) hHeld ?_ ?_
    rotate_left
    · rintro w' ⟨s0, s1, s2⟩
      go_simp
      with_reducible rfl
    rotate_left
    · simp only [Act.put, List.setIfInBounds_toArray, List.set_cons_zero, List.set_cons_succ, i64_w, i32_w]
      rfl
    refine join_ (σ := Value × Value × Nat) 1 #[true, true, true, true, true, true, true, true, false] (fun s_ => [(8, s_.1), (11, s_.2.1), (3, .pointer (some ⟨s_.2.2, 0, none⟩)), (12, .agg #[.slice none 0 0, s_.2.1, .bool a0_2])]) (fun s_ w' => (w'.cell? ⟨gb183, 0, none⟩ = some (.slice A0_0 l0_0.length c0_0) ∧ w'.cell? ⟨gb183, 1, none⟩ = some (.slice A0_1 l0_1.length c0_1) ∧ w'.cell? ⟨gb183, 2, none⟩ = some (.bool a0_2)) ∧ (Kd.R Kd.string 9 w' w.heap.size (fun _ => True) s_.2.1 y188) ∧ (w'.heap[gb183]? = some (.cells #[.slice A0_0 l0_0.length c0_0, .slice A0_1 l0_1.length c0_1, .bool a0_2] 41 (0, 0))) ∧ (w'.heap[gb184]? = some (.cells #[.slice none 0 0, .slice none 0 0, .bool false] 41 (0, 0))) ∧ (w'.heap[s_.2.2]? = some (.cells #[.slice none 0 0, .slice none 0 0, .bool false] 41 (0, 0))) ∧ (w.heap.size ≤ s_.2.2) ∧ (w.heap.size ≤ s_.2.2) ∧ (gb183 ≠ s_.2.2) ∧ (s_.2.2 ≠ gb183) ∧ (gb184 ≠ s_.2.2) ∧ (s_.2.2 ≠ gb184) ∧ (Below w.heap.size w w')) ?_ ?_
    rotate_left
    · intro hCont
      refine two_ (i := 2) (j := 7) (Ni := some 8) (Nj := some 3) #[true, true, true, true, true, false, false, false, false] #[true, true, false, true, true, false, false, true, false] rfl rfl rfl rfl (two_of HT_.out (by kernel_rfl)) (by decide) (by decide) (fun K hK => ?_) (fun K hK => ?_)
      · skip
        refine Kd.R_lit_step Kd.string _ 9 ?hg (N := 8) ?hd (xs := ([] : List ByteArray)) (inner := []) (ok := fun _ => True) (okp := fun _ => True) ?hr ?hp (fun _ hk => hk) trivial (Below.refl _ _) (Nat.le_refl _) (by simp) ?_; (case hd => rfl); (case hg => rfl); (case hr => first | (go_simp; done) | (go_simp; rfl)); (case hp => exact (Reps.none _ _))
        intro v186 w6 ho7 hb hg_ hnew_
        clear hg_ hnew_
        (first | rw [← Ny185.out] at ho7 | (simp only [Int.reduceToNat] at ho7; rw [← Ny185.out] at ho7))
        have n0_ := Aside0.mk (Kd.R_lower ho7 (below_size (by repeat (first | (with_reducible first | exact HB.out | apply below_alloc | apply pw_below_drewN | apply below_drew1 | refine below_set ?_ GE183.out | refine below_set ?_ GE184.out) | exact HB.out))))
        have n1_ := Aside0.mk (blk_below (g := gb183) (o := .cells #[.slice A0_0 l0_0.length c0_0, .slice A0_1 l0_1.length c0_1, .bool a0_2] 41 (0, 0)) (by (with_reducible repeat (first | refine blk_drewN ?_ _ | refine blk_drew ?_ | refine blk_alloc ?_ _)); exact BK183.out) hb)
        have n2_ := Aside0.mk (blk_below (g := gb184) (o := .cells #[.slice none 0 0, .slice none 0 0, .bool false] 41 (0, 0)) (by (with_reducible repeat (first | refine blk_drewN ?_ _ | refine blk_drew ?_ | refine blk_alloc ?_ _)); exact BK184.out) hb)
        have n3_ := Aside0.mk (below_step (by repeat (first | (with_reducible first | exact HB.out | apply below_alloc | apply pw_below_drewN | apply below_drew1 | refine below_set ?_ GE183.out | refine below_set ?_ GE184.out) | exact HB.out)) hb)
        clear BK183
        clear BK184
        clear HB
        have HO187 := n0_
        have BK183 := n1_
        have BK184 := n2_
        have HB := n3_
        clear n0_ n1_ n2_ n3_
        clear hb ho7
        refine hK.out _ _ ⟨(blk_cell BK183.out 0).trans rfl, (blk_cell BK183.out 1).trans rfl, (blk_cell BK183.out 2).trans rfl⟩ (fun hHeld => ?_)
        clear hK K
        refine norm_ (a' := ?_) ?_ ?_
        rotate_left
        · show Act.put _ (some 8) _ = _
          simp only [Act.put, List.setIfInBounds_toArray, List.set_cons_zero, List.set_cons_succ, i64_w, i32_w]
          rfl
        refine two_ (i := 5) (j := 7) (Ni := some 11) (Nj := some 3) #[true, true, true, true, true, true, false, false, false] #[true, true, true, true, true, false, false, true, false] rfl rfl rfl rfl (two_of HT_.out (by kernel_rfl)) (by decide) (by decide) (fun K hK => ?_) (fun K hK => ?_)
        · skip
          refine Kd.R_append_rows_step Kd.string (w0 := w) w.heap.size (by rfl) (.tmp 8) (.tmp 10) 33 9 (.string ⟨#[]⟩) 16 rfl Tryd.underlying33 info9 rfl (by decide) (by omega) v186 y185 l0_1 _ _ _ (fun _ => True) (fun _ => False) rfl rfl ?aO ?aR (fun _ _ h => h) (fun _ h => h.elim) ?aF ?aB ?aS ?aL ?_
          (case aR => repeat (first | exact (Kd.C_below HR0_1.out HB.out) | (with_reducible refine Kd.C_alloc ?_ _) | (with_reducible refine Kd.C_drewN ?_ _) | (with_reducible refine Kd.C_drew ?_)))
          (case aB => exact (by repeat (first | (with_reducible first | exact HB.out | apply below_alloc | apply pw_below_drewN | apply below_drew1 | refine below_set ?_ GE183.out | refine below_set ?_ GE184.out) | exact HB.out)))
          (case aF => exact (fun _ _ => trivial))
          (case aO => exact (by (with_reducible repeat (first | apply Kd.R_alloc | apply Kd.R_drewN | apply Kd.R_drew)); exact HO187.out))
          (case aS => exact (below_size (by repeat (first | (with_reducible first | exact HB.out | apply below_alloc | apply pw_below_drewN | apply below_drew1 | refine below_set ?_ GE183.out | refine below_set ?_ GE184.out) | exact HB.out))))
          (case aL => have := LMc2.out; omega)
          intro v189 w8 ho hb hg hat
          rw [← Ny188.out] at ho
          have n0_ := Aside0.mk (blk_grown (g := gb183) (o := .cells #[.slice A0_0 l0_0.length c0_0, .slice A0_1 l0_1.length c0_1, .bool a0_2] 41 (0, 0)) (by (with_reducible repeat (first | refine blk_drewN ?_ _ | refine blk_drew ?_ | refine blk_alloc ?_ _)); exact BK183.out) hg (Kd.R_ne HO187.out BK183.out (by decide)))
          have n1_ := Aside0.mk (blk_grown (g := gb184) (o := .cells #[.slice none 0 0, .slice none 0 0, .bool false] 41 (0, 0)) (by (with_reducible repeat (first | refine blk_drewN ?_ _ | refine blk_drew ?_ | refine blk_alloc ?_ _)); exact BK184.out) hg (Kd.R_ne HO187.out BK184.out (by decide)))
          have n2_ := Aside0.mk (hb)
          have n3_ := Aside0.mk (ho)
          clear BK183
          clear BK184
          clear HB
          clear HO187
          have BK183 := n0_
          have BK184 := n1_
          have HB := n2_
          have HO190 := n3_
          clear n0_ n1_ n2_ n3_
          clear ho hb hg hat
          obtain ⟨Ao9, co9, eo9⟩ := Kd.R_slice HO190.out
          (first | subst eo9 | (injection eo9 with f1_ f2_ f3_; have f4_ := f1_.symm; have f5_ := f3_.symm; clear f1_ f2_ f3_; subst f4_; subst f5_))
          refine hK.out _ _ ⟨(blk_cell BK183.out 0).trans rfl, (blk_cell BK183.out 1).trans rfl, (blk_cell BK183.out 2).trans rfl⟩ (fun hHeld => ?_)
          clear hK K
          refine norm_ (a' := ?_) ?_ ?_
          rotate_left
          · show Act.put _ (some 11) _ = _
            simp only [Act.put, List.setIfInBounds_toArray, List.set_cons_zero, List.set_cons_succ, i64_w, i32_w]
            rfl
          refine pure_ (i := 6) (N := some 12) (v := ?_) (a' := ?_) #[true, true, true, true, true, true, true, false, false] rfl rfl (any_of HT_.out (by kernel_rfl)) (fun _ _ _ h => h) (Or.inl ⟨by rfl, ?_⟩) ?_ ?_
          rotate_left
          · intro w'
            go_simp
            with_reducible rfl
          rotate_left
          · simp only [Act.put, List.setIfInBounds_toArray, List.set_cons_zero, List.set_cons_succ, i64_w, i32_w]
            rfl
          refine one_ (i := 7) (N := some 3) #[true, true, true, true, true, true, true, true, false] rfl rfl (one_of HT_.out (by kernel_rfl)) (by decide) (fun K hK => ?_)
          refine box_step ?hg (N := 3) ?hd (cs := #[.slice none 0 0, .slice none 0 0, .bool false]) (t := 41) ?hr ?_; (case hd => rfl); (case hg => rfl); (case hr => first | (go_simp; done) | (go_simp; rfl))
          intro gb191 hg w10 hbox hb
          have n0_ := Aside0.mk (Kd.R_below (by (with_reducible repeat (first | apply Kd.R_alloc | apply Kd.R_drewN | apply Kd.R_drew)); exact HO190.out) hb)
          have n1_ := Aside0.mk (blk_below (g := gb183) (o := .cells #[.slice A0_0 l0_0.length c0_0, .slice A0_1 l0_1.length c0_1, .bool a0_2] 41 (0, 0)) (by (with_reducible repeat (first | refine blk_drewN ?_ _ | refine blk_drew ?_ | refine blk_alloc ?_ _)); exact BK183.out) hb)
          have n2_ := Aside0.mk (blk_below (g := gb184) (o := .cells #[.slice none 0 0, .slice none 0 0, .bool false] 41 (0, 0)) (by (with_reducible repeat (first | refine blk_drewN ?_ _ | refine blk_drew ?_ | refine blk_alloc ?_ _)); exact BK184.out) hb)
          have n3_ := Aside0.mk (below_step (by repeat (first | (with_reducible first | exact HB.out | apply below_alloc | apply pw_below_drewN | apply below_drew1 | refine below_set ?_ GE183.out | refine below_set ?_ GE184.out) | exact HB.out)) hb)
          have n4_ := Aside0.mk (hbox)
          have n5_ := Aside0.mk ((by rw [hg]; exact (below_size (by repeat (first | (with_reducible first | exact HB.out | apply below_alloc | apply pw_below_drewN | apply below_drew1 | refine below_set ?_ GE183.out | refine below_set ?_ GE184.out) | exact HB.out))) : w.heap.size ≤ gb191))
          have n6_ := Aside0.mk ((by rw [hg]; exact (below_size (by repeat (first | (with_reducible first | exact HB.out | apply below_alloc | apply pw_below_drewN | apply below_drew1 | refine below_set ?_ GE183.out | refine below_set ?_ GE184.out) | exact HB.out))) : w.heap.size ≤ gb191))
          have n7_ := Aside0.mk ((by rw [hg]; exact Nat.ne_of_lt (blk_lt (g := gb183) (o := .cells #[.slice A0_0 l0_0.length c0_0, .slice A0_1 l0_1.length c0_1, .bool a0_2] 41 (0, 0)) (by (with_reducible repeat (first | refine blk_drewN ?_ _ | refine blk_drew ?_ | refine blk_alloc ?_ _)); exact BK183.out)) : gb183 ≠ gb191))
          have n8_ := Aside0.mk ((by rw [hg]; exact Nat.ne_of_gt (blk_lt (g := gb183) (o := .cells #[.slice A0_0 l0_0.length c0_0, .slice A0_1 l0_1.length c0_1, .bool a0_2] 41 (0, 0)) (by (with_reducible repeat (first | refine blk_drewN ?_ _ | refine blk_drew ?_ | refine blk_alloc ?_ _)); exact BK183.out)) : gb191 ≠ gb183))
          have n9_ := Aside0.mk ((by rw [hg]; exact Nat.ne_of_lt (blk_lt (g := gb184) (o := .cells #[.slice none 0 0, .slice none 0 0, .bool false] 41 (0, 0)) (by (with_reducible repeat (first | refine blk_drewN ?_ _ | refine blk_drew ?_ | refine blk_alloc ?_ _)); exact BK184.out)) : gb184 ≠ gb191))
          have n10_ := Aside0.mk ((by rw [hg]; exact Nat.ne_of_gt (blk_lt (g := gb184) (o := .cells #[.slice none 0 0, .slice none 0 0, .bool false] 41 (0, 0)) (by (with_reducible repeat (first | refine blk_drewN ?_ _ | refine blk_drew ?_ | refine blk_alloc ?_ _)); exact BK184.out)) : gb191 ≠ gb184))
          clear HO190
          clear BK183
          clear BK184
          clear HB
          have HO190 := n0_
          have BK183 := n1_
          have BK184 := n2_
          have HB := n3_
          have BK191 := n4_
          have GW191 := n5_
          have GE191 := n6_
          have NB183_191 := n7_
          have NB191_183 := n8_
          have NB184_191 := n9_
          have NB191_184 := n10_
          clear n0_ n1_ n2_ n3_ n4_ n5_ n6_ n7_ n8_ n9_ n10_
          clear hb hbox hg
          refine hK.out _ _ ⟨(blk_cell BK183.out 0).trans rfl, (blk_cell BK183.out 1).trans rfl, (blk_cell BK183.out 2).trans rfl⟩ (fun hHeld => ?_)
          clear hK K
          refine norm_ (a' := ?_) ?_ ?_
          rotate_left
          · show Act.put _ (some 3) _ = _
            simp only [Act.put, List.setIfInBounds_toArray, List.set_cons_zero, List.set_cons_succ, i64_w, i32_w]
            rfl
          exact norm_ (by simp only [putAll, Act.put, List.setIfInBounds_toArray, List.set_cons_zero, List.set_cons_succ]) (hCont (v186, .slice Ao9 y188.length co9, gb191) _ ⟨hHeld, (by (with_reducible repeat (first | apply Kd.R_alloc | apply Kd.R_drewN | apply Kd.R_drew)); exact HO190.out), (by (with_reducible repeat (first | refine blk_drewN ?_ _ | refine blk_drew ?_ | refine blk_alloc ?_ _)); exact BK183.out), (by (with_reducible repeat (first | refine blk_drewN ?_ _ | refine blk_drew ?_ | refine blk_alloc ?_ _)); exact BK184.out), (by (with_reducible repeat (first | refine blk_drewN ?_ _ | refine blk_drew ?_ | refine blk_alloc ?_ _)); exact BK191.out), GW191.out, GE191.out, NB183_191.out, NB191_183.out, NB184_191.out, NB191_184.out, (by repeat (first | (with_reducible first | exact HB.out | apply below_alloc | apply pw_below_drewN | apply below_drew1 | refine below_set ?_ GE183.out | refine below_set ?_ GE184.out | refine below_set ?_ GE191.out) | exact HB.out))⟩)
        · skip
          refine box_step ?hg (N := 3) ?hd (cs := #[.slice none 0 0, .slice none 0 0, .bool false]) (t := 41) ?hr ?_; (case hd => rfl); (case hg => rfl); (case hr => first | (go_simp; done) | (go_simp; rfl))
          intro gb191 hg w8 hbox hb
          have n0_ := Aside0.mk (Kd.R_below (by (with_reducible repeat (first | apply Kd.R_alloc | apply Kd.R_drewN | apply Kd.R_drew)); exact HO187.out) hb)
          have n1_ := Aside0.mk (blk_below (g := gb183) (o := .cells #[.slice A0_0 l0_0.length c0_0, .slice A0_1 l0_1.length c0_1, .bool a0_2] 41 (0, 0)) (by (with_reducible repeat (first | refine blk_drewN ?_ _ | refine blk_drew ?_ | refine blk_alloc ?_ _)); exact BK183.out) hb)
          have n2_ := Aside0.mk (blk_below (g := gb184) (o := .cells #[.slice none 0 0, .slice none 0 0, .bool false] 41 (0, 0)) (by (with_reducible repeat (first | refine blk_drewN ?_ _ | refine blk_drew ?_ | refine blk_alloc ?_ _)); exact BK184.out) hb)
          have n3_ := Aside0.mk (below_step (by repeat (first | (with_reducible first | exact HB.out | apply below_alloc | apply pw_below_drewN | apply below_drew1 | refine below_set ?_ GE183.out | refine below_set ?_ GE184.out) | exact HB.out)) hb)
          have n4_ := Aside0.mk (hbox)
          have n5_ := Aside0.mk ((by rw [hg]; exact (below_size (by repeat (first | (with_reducible first | exact HB.out | apply below_alloc | apply pw_below_drewN | apply below_drew1 | refine below_set ?_ GE183.out | refine below_set ?_ GE184.out) | exact HB.out))) : w.heap.size ≤ gb191))
          have n6_ := Aside0.mk ((by rw [hg]; exact (below_size (by repeat (first | (with_reducible first | exact HB.out | apply below_alloc | apply pw_below_drewN | apply below_drew1 | refine below_set ?_ GE183.out | refine below_set ?_ GE184.out) | exact HB.out))) : w.heap.size ≤ gb191))
          have n7_ := Aside0.mk ((by rw [hg]; exact Nat.ne_of_lt (blk_lt (g := gb183) (o := .cells #[.slice A0_0 l0_0.length c0_0, .slice A0_1 l0_1.length c0_1, .bool a0_2] 41 (0, 0)) (by (with_reducible repeat (first | refine blk_drewN ?_ _ | refine blk_drew ?_ | refine blk_alloc ?_ _)); exact BK183.out)) : gb183 ≠ gb191))
          have n8_ := Aside0.mk ((by rw [hg]; exact Nat.ne_of_gt (blk_lt (g := gb183) (o := .cells #[.slice A0_0 l0_0.length c0_0, .slice A0_1 l0_1.length c0_1, .bool a0_2] 41 (0, 0)) (by (with_reducible repeat (first | refine blk_drewN ?_ _ | refine blk_drew ?_ | refine blk_alloc ?_ _)); exact BK183.out)) : gb191 ≠ gb183))
          have n9_ := Aside0.mk ((by rw [hg]; exact Nat.ne_of_lt (blk_lt (g := gb184) (o := .cells #[.slice none 0 0, .slice none 0 0, .bool false] 41 (0, 0)) (by (with_reducible repeat (first | refine blk_drewN ?_ _ | refine blk_drew ?_ | refine blk_alloc ?_ _)); exact BK184.out)) : gb184 ≠ gb191))
          have n10_ := Aside0.mk ((by rw [hg]; exact Nat.ne_of_gt (blk_lt (g := gb184) (o := .cells #[.slice none 0 0, .slice none 0 0, .bool false] 41 (0, 0)) (by (with_reducible repeat (first | refine blk_drewN ?_ _ | refine blk_drew ?_ | refine blk_alloc ?_ _)); exact BK184.out)) : gb191 ≠ gb184))
          clear HO187
          clear BK183
          clear BK184
          clear HB
          have HO187 := n0_
          have BK183 := n1_
          have BK184 := n2_
          have HB := n3_
          have BK191 := n4_
          have GW191 := n5_
          have GE191 := n6_
          have NB183_191 := n7_
          have NB191_183 := n8_
          have NB184_191 := n9_
          have NB191_184 := n10_
          clear n0_ n1_ n2_ n3_ n4_ n5_ n6_ n7_ n8_ n9_ n10_
          clear hb hbox hg
          refine hK.out _ _ ⟨(blk_cell BK183.out 0).trans rfl, (blk_cell BK183.out 1).trans rfl, (blk_cell BK183.out 2).trans rfl⟩ (fun hHeld => ?_)
          clear hK K
          refine norm_ (a' := ?_) ?_ ?_
          rotate_left
          · show Act.put _ (some 3) _ = _
            simp only [Act.put, List.setIfInBounds_toArray, List.set_cons_zero, List.set_cons_succ, i64_w, i32_w]
            rfl
          refine one_ (i := 5) (N := some 11) #[true, true, true, true, true, true, false, true, false] rfl rfl (one_of HT_.out (by kernel_rfl)) (by decide) (fun K hK => ?_)
          refine Kd.R_append_rows_step Kd.string (w0 := w) w.heap.size (by rfl) (.tmp 8) (.tmp 10) 33 9 (.string ⟨#[]⟩) 16 rfl Tryd.underlying33 info9 rfl (by decide) (by omega) v186 y185 l0_1 _ _ _ (fun _ => True) (fun _ => False) rfl rfl ?aO ?aR (fun _ _ h => h) (fun _ h => h.elim) ?aF ?aB ?aS ?aL ?_
          (case aR => repeat (first | exact (Kd.C_below HR0_1.out HB.out) | (with_reducible refine Kd.C_alloc ?_ _) | (with_reducible refine Kd.C_drewN ?_ _) | (with_reducible refine Kd.C_drew ?_)))
          (case aB => exact (by repeat (first | (with_reducible first | exact HB.out | apply below_alloc | apply pw_below_drewN | apply below_drew1 | refine below_set ?_ GE183.out | refine below_set ?_ GE184.out | refine below_set ?_ GE191.out) | exact HB.out)))
          (case aF => exact (fun _ _ => trivial))
          (case aO => exact (by (with_reducible repeat (first | apply Kd.R_alloc | apply Kd.R_drewN | apply Kd.R_drew)); exact HO187.out))
          (case aS => exact (below_size (by repeat (first | (with_reducible first | exact HB.out | apply below_alloc | apply pw_below_drewN | apply below_drew1 | refine below_set ?_ GE183.out | refine below_set ?_ GE184.out | refine below_set ?_ GE191.out) | exact HB.out))))
          (case aL => have := LMc2.out; omega)
          intro v189 w9 ho hb hg hat
          rw [← Ny188.out] at ho
          have n0_ := Aside0.mk (blk_grown (g := gb183) (o := .cells #[.slice A0_0 l0_0.length c0_0, .slice A0_1 l0_1.length c0_1, .bool a0_2] 41 (0, 0)) (by (with_reducible repeat (first | refine blk_drewN ?_ _ | refine blk_drew ?_ | refine blk_alloc ?_ _)); exact BK183.out) hg (Kd.R_ne HO187.out BK183.out (by decide)))
          have n1_ := Aside0.mk (blk_grown (g := gb184) (o := .cells #[.slice none 0 0, .slice none 0 0, .bool false] 41 (0, 0)) (by (with_reducible repeat (first | refine blk_drewN ?_ _ | refine blk_drew ?_ | refine blk_alloc ?_ _)); exact BK184.out) hg (Kd.R_ne HO187.out BK184.out (by decide)))
          have n2_ := Aside0.mk (blk_grown (g := gb191) (o := .cells #[.slice none 0 0, .slice none 0 0, .bool false] 41 (0, 0)) (by (with_reducible repeat (first | refine blk_drewN ?_ _ | refine blk_drew ?_ | refine blk_alloc ?_ _)); exact BK191.out) hg (Kd.R_ne HO187.out BK191.out (by decide)))
          have n3_ := Aside0.mk (hb)
          have n4_ := Aside0.mk (ho)
          clear BK183
          clear BK184
          clear BK191
          clear HB
          clear HO187
          have BK183 := n0_
          have BK184 := n1_
          have BK191 := n2_
          have HB := n3_
          have HO190 := n4_
          clear n0_ n1_ n2_ n3_ n4_
          clear ho hb hg hat
          obtain ⟨Ao10, co10, eo10⟩ := Kd.R_slice HO190.out
          (first | subst eo10 | (injection eo10 with f1_ f2_ f3_; have f4_ := f1_.symm; have f5_ := f3_.symm; clear f1_ f2_ f3_; subst f4_; subst f5_))
          refine hK.out _ _ ⟨(blk_cell BK183.out 0).trans rfl, (blk_cell BK183.out 1).trans rfl, (blk_cell BK183.out 2).trans rfl⟩ (fun hHeld => ?_)
          clear hK K
          refine norm_ (a' := ?_) ?_ ?_
          rotate_left
          · show Act.put _ (some 11) _ = _
            simp only [Act.put, List.setIfInBounds_toArray, List.set_cons_zero, List.set_cons_succ, i64_w, i32_w]
            rfl
          refine pure_ (i := 6) (N := some 12) (v := ?_) (a' := ?_) #[true, true, true, true, true, true, true, true, false] rfl rfl (any_of HT_.out (by kernel_rfl)) (fun _ _ _ h => h) (Or.inl ⟨by rfl, ?_⟩) ?_ ?_
          rotate_left
          · intro w'
            go_simp
            with_reducible rfl
          rotate_left
          · simp only [Act.put, List.setIfInBounds_toArray, List.set_cons_zero, List.set_cons_succ, i64_w, i32_w]
            rfl
          exact norm_ (by simp only [putAll, Act.put, List.setIfInBounds_toArray, List.set_cons_zero, List.set_cons_succ]) (hCont (v186, .slice Ao10 y188.length co10, gb191) _ ⟨hHeld, (by (with_reducible repeat (first | apply Kd.R_alloc | apply Kd.R_drewN | apply Kd.R_drew)); exact HO190.out), (by (with_reducible repeat (first | refine blk_drewN ?_ _ | refine blk_drew ?_ | refine blk_alloc ?_ _)); exact BK183.out), (by (with_reducible repeat (first | refine blk_drewN ?_ _ | refine blk_drew ?_ | refine blk_alloc ?_ _)); exact BK184.out), (by (with_reducible repeat (first | refine blk_drewN ?_ _ | refine blk_drew ?_ | refine blk_alloc ?_ _)); exact BK191.out), GW191.out, GE191.out, NB183_191.out, NB191_183.out, NB184_191.out, NB191_184.out, (by repeat (first | (with_reducible first | exact HB.out | apply below_alloc | apply pw_below_drewN | apply below_drew1 | refine below_set ?_ GE183.out | refine below_set ?_ GE184.out | refine below_set ?_ GE191.out) | exact HB.out))⟩)
      · skip
        refine box_step ?hg (N := 3) ?hd (cs := #[.slice none 0 0, .slice none 0 0, .bool false]) (t := 41) ?hr ?_; (case hd => rfl); (case hg => rfl); (case hr => first | (go_simp; done) | (go_simp; rfl))
        intro gb191 hg w6 hbox hb
        have n0_ := Aside0.mk (blk_below (g := gb183) (o := .cells #[.slice A0_0 l0_0.length c0_0, .slice A0_1 l0_1.length c0_1, .bool a0_2] 41 (0, 0)) (by (with_reducible repeat (first | refine blk_drewN ?_ _ | refine blk_drew ?_ | refine blk_alloc ?_ _)); exact BK183.out) hb)
        have n1_ := Aside0.mk (blk_below (g := gb184) (o := .cells #[.slice none 0 0, .slice none 0 0, .bool false] 41 (0, 0)) (by (with_reducible repeat (first | refine blk_drewN ?_ _ | refine blk_drew ?_ | refine blk_alloc ?_ _)); exact BK184.out) hb)
        have n2_ := Aside0.mk (below_step (by repeat (first | (with_reducible first | exact HB.out | apply below_alloc | apply pw_below_drewN | apply below_drew1 | refine below_set ?_ GE183.out | refine below_set ?_ GE184.out) | exact HB.out)) hb)
        have n3_ := Aside0.mk (hbox)
        have n4_ := Aside0.mk ((by rw [hg]; exact (below_size (by repeat (first | (with_reducible first | exact HB.out | apply below_alloc | apply pw_below_drewN | apply below_drew1 | refine below_set ?_ GE183.out | refine below_set ?_ GE184.out) | exact HB.out))) : w.heap.size ≤ gb191))
        have n5_ := Aside0.mk ((by rw [hg]; exact (below_size (by repeat (first | (with_reducible first | exact HB.out | apply below_alloc | apply pw_below_drewN | apply below_drew1 | refine below_set ?_ GE183.out | refine below_set ?_ GE184.out) | exact HB.out))) : w.heap.size ≤ gb191))
        have n6_ := Aside0.mk ((by rw [hg]; exact Nat.ne_of_lt (blk_lt (g := gb183) (o := .cells #[.slice A0_0 l0_0.length c0_0, .slice A0_1 l0_1.length c0_1, .bool a0_2] 41 (0, 0)) (by (with_reducible repeat (first | refine blk_drewN ?_ _ | refine blk_drew ?_ | refine blk_alloc ?_ _)); exact BK183.out)) : gb183 ≠ gb191))
        have n7_ := Aside0.mk ((by rw [hg]; exact Nat.ne_of_gt (blk_lt (g := gb183) (o := .cells #[.slice A0_0 l0_0.length c0_0, .slice A0_1 l0_1.length c0_1, .bool a0_2] 41 (0, 0)) (by (with_reducible repeat (first | refine blk_drewN ?_ _ | refine blk_drew ?_ | refine blk_alloc ?_ _)); exact BK183.out)) : gb191 ≠ gb183))
        have n8_ := Aside0.mk ((by rw [hg]; exact Nat.ne_of_lt (blk_lt (g := gb184) (o := .cells #[.slice none 0 0, .slice none 0 0, .bool false] 41 (0, 0)) (by (with_reducible repeat (first | refine blk_drewN ?_ _ | refine blk_drew ?_ | refine blk_alloc ?_ _)); exact BK184.out)) : gb184 ≠ gb191))
        have n9_ := Aside0.mk ((by rw [hg]; exact Nat.ne_of_gt (blk_lt (g := gb184) (o := .cells #[.slice none 0 0, .slice none 0 0, .bool false] 41 (0, 0)) (by (with_reducible repeat (first | refine blk_drewN ?_ _ | refine blk_drew ?_ | refine blk_alloc ?_ _)); exact BK184.out)) : gb191 ≠ gb184))
        clear BK183
        clear BK184
        clear HB
        have BK183 := n0_
        have BK184 := n1_
        have HB := n2_
        have BK191 := n3_
        have GW191 := n4_
        have GE191 := n5_
        have NB183_191 := n6_
        have NB191_183 := n7_
        have NB184_191 := n8_
        have NB191_184 := n9_
        clear n0_ n1_ n2_ n3_ n4_ n5_ n6_ n7_ n8_ n9_
        clear hb hbox hg
        refine hK.out _ _ ⟨(blk_cell BK183.out 0).trans rfl, (blk_cell BK183.out 1).trans rfl, (blk_cell BK183.out 2).trans rfl⟩ (fun hHeld => ?_)
        clear hK K
        refine norm_ (a' := ?_) ?_ ?_
        rotate_left
        · show Act.put _ (some 3) _ = _
          simp only [Act.put, List.setIfInBounds_toArray, List.set_cons_zero, List.set_cons_succ, i64_w, i32_w]
          rfl
        refine one_ (i := 2) (N := some 8) #[true, true, true, true, true, false, false, true, false] rfl rfl (one_of HT_.out (by kernel_rfl)) (by decide) (fun K hK => ?_)
        refine Kd.R_lit_step Kd.string _ 9 ?hg (N := 8) ?hd (xs := ([] : List ByteArray)) (inner := []) (ok := fun _ => True) (okp := fun _ => True) ?hr ?hp (fun _ hk => hk) trivial (Below.refl _ _) (Nat.le_refl _) (by simp) ?_; (case hd => rfl); (case hg => rfl); (case hr => first | (go_simp; done) | (go_simp; rfl)); (case hp => exact (Reps.none _ _))
        intro v186 w7 ho8 hb hg_ hnew_
        clear hg_ hnew_
        (first | rw [← Ny185.out] at ho8 | (simp only [Int.reduceToNat] at ho8; rw [← Ny185.out] at ho8))
        have n0_ := Aside0.mk (Kd.R_lower ho8 (below_size (by repeat (first | (with_reducible first | exact HB.out | apply below_alloc | apply pw_below_drewN | apply below_drew1 | refine below_set ?_ GE183.out | refine below_set ?_ GE184.out | refine below_set ?_ GE191.out) | exact HB.out))))
        have n1_ := Aside0.mk (blk_below (g := gb183) (o := .cells #[.slice A0_0 l0_0.length c0_0, .slice A0_1 l0_1.length c0_1, .bool a0_2] 41 (0, 0)) (by (with_reducible repeat (first | refine blk_drewN ?_ _ | refine blk_drew ?_ | refine blk_alloc ?_ _)); exact BK183.out) hb)
        have n2_ := Aside0.mk (blk_below (g := gb184) (o := .cells #[.slice none 0 0, .slice none 0 0, .bool false] 41 (0, 0)) (by (with_reducible repeat (first | refine blk_drewN ?_ _ | refine blk_drew ?_ | refine blk_alloc ?_ _)); exact BK184.out) hb)
        have n3_ := Aside0.mk (blk_below (g := gb191) (o := .cells #[.slice none 0 0, .slice none 0 0, .bool false] 41 (0, 0)) (by (with_reducible repeat (first | refine blk_drewN ?_ _ | refine blk_drew ?_ | refine blk_alloc ?_ _)); exact BK191.out) hb)
        have n4_ := Aside0.mk (below_step (by repeat (first | (with_reducible first | exact HB.out | apply below_alloc | apply pw_below_drewN | apply below_drew1 | refine below_set ?_ GE183.out | refine below_set ?_ GE184.out | refine below_set ?_ GE191.out) | exact HB.out)) hb)
        clear BK183
        clear BK184
        clear BK191
        clear HB
        have HO187 := n0_
        have BK183 := n1_
        have BK184 := n2_
        have BK191 := n3_
        have HB := n4_
        clear n0_ n1_ n2_ n3_ n4_
        clear hb ho8
        refine hK.out _ _ ⟨(blk_cell BK183.out 0).trans rfl, (blk_cell BK183.out 1).trans rfl, (blk_cell BK183.out 2).trans rfl⟩ (fun hHeld => ?_)
        clear hK K
        refine norm_ (a' := ?_) ?_ ?_
        rotate_left
        · show Act.put _ (some 8) _ = _
          simp only [Act.put, List.setIfInBounds_toArray, List.set_cons_zero, List.set_cons_succ, i64_w, i32_w]
          rfl
        refine one_ (i := 5) (N := some 11) #[true, true, true, true, true, true, false, true, false] rfl rfl (one_of HT_.out (by kernel_rfl)) (by decide) (fun K hK => ?_)
        refine Kd.R_append_rows_step Kd.string (w0 := w) w.heap.size (by rfl) (.tmp 8) (.tmp 10) 33 9 (.string ⟨#[]⟩) 16 rfl Tryd.underlying33 info9 rfl (by decide) (by omega) v186 y185 l0_1 _ _ _ (fun _ => True) (fun _ => False) rfl rfl ?aO ?aR (fun _ _ h => h) (fun _ h => h.elim) ?aF ?aB ?aS ?aL ?_
        (case aR => repeat (first | exact (Kd.C_below HR0_1.out HB.out) | (with_reducible refine Kd.C_alloc ?_ _) | (with_reducible refine Kd.C_drewN ?_ _) | (with_reducible refine Kd.C_drew ?_)))
        (case aB => exact (by repeat (first | (with_reducible first | exact HB.out | apply below_alloc | apply pw_below_drewN | apply below_drew1 | refine below_set ?_ GE183.out | refine below_set ?_ GE184.out | refine below_set ?_ GE191.out) | exact HB.out)))
        (case aF => exact (fun _ _ => trivial))
        (case aO => exact (by (with_reducible repeat (first | apply Kd.R_alloc | apply Kd.R_drewN | apply Kd.R_drew)); exact HO187.out))
        (case aS => exact (below_size (by repeat (first | (with_reducible first | exact HB.out | apply below_alloc | apply pw_below_drewN | apply below_drew1 | refine below_set ?_ GE183.out | refine below_set ?_ GE184.out | refine below_set ?_ GE191.out) | exact HB.out))))
        (case aL => have := LMc2.out; omega)
        intro v189 w9 ho hb hg hat
        rw [← Ny188.out] at ho
        have n0_ := Aside0.mk (blk_grown (g := gb183) (o := .cells #[.slice A0_0 l0_0.length c0_0, .slice A0_1 l0_1.length c0_1, .bool a0_2] 41 (0, 0)) (by (with_reducible repeat (first | refine blk_drewN ?_ _ | refine blk_drew ?_ | refine blk_alloc ?_ _)); exact BK183.out) hg (Kd.R_ne HO187.out BK183.out (by decide)))
        have n1_ := Aside0.mk (blk_grown (g := gb184) (o := .cells #[.slice none 0 0, .slice none 0 0, .bool false] 41 (0, 0)) (by (with_reducible repeat (first | refine blk_drewN ?_ _ | refine blk_drew ?_ | refine blk_alloc ?_ _)); exact BK184.out) hg (Kd.R_ne HO187.out BK184.out (by decide)))
        have n2_ := Aside0.mk (blk_grown (g := gb191) (o := .cells #[.slice none 0 0, .slice none 0 0, .bool false] 41 (0, 0)) (by (with_reducible repeat (first | refine blk_drewN ?_ _ | refine blk_drew ?_ | refine blk_alloc ?_ _)); exact BK191.out) hg (Kd.R_ne HO187.out BK191.out (by decide)))
        have n3_ := Aside0.mk (hb)
        have n4_ := Aside0.mk (ho)
        clear BK183
        clear BK184
        clear BK191
        clear HB
        clear HO187
        have BK183 := n0_
        have BK184 := n1_
        have BK191 := n2_
        have HB := n3_
        have HO190 := n4_
        clear n0_ n1_ n2_ n3_ n4_
        clear ho hb hg hat
        obtain ⟨Ao10, co10, eo10⟩ := Kd.R_slice HO190.out
        (first | subst eo10 | (injection eo10 with f1_ f2_ f3_; have f4_ := f1_.symm; have f5_ := f3_.symm; clear f1_ f2_ f3_; subst f4_; subst f5_))
        refine hK.out _ _ ⟨(blk_cell BK183.out 0).trans rfl, (blk_cell BK183.out 1).trans rfl, (blk_cell BK183.out 2).trans rfl⟩ (fun hHeld => ?_)
        clear hK K
        refine norm_ (a' := ?_) ?_ ?_
        rotate_left
        · show Act.put _ (some 11) _ = _
          simp only [Act.put, List.setIfInBounds_toArray, List.set_cons_zero, List.set_cons_succ, i64_w, i32_w]
          rfl
        refine pure_ (i := 6) (N := some 12) (v := ?_) (a' := ?_) #[true, true, true, true, true, true, true, true, false] rfl rfl (any_of HT_.out (by kernel_rfl)) (fun _ _ _ h => h) (Or.inl ⟨by rfl, ?_⟩) ?_ ?_
        rotate_left
        · intro w'
          go_simp
          with_reducible rfl
        rotate_left
        · simp only [Act.put, List.setIfInBounds_toArray, List.set_cons_zero, List.set_cons_succ, i64_w, i32_w]
          rfl
        exact norm_ (by simp only [putAll, Act.put, List.setIfInBounds_toArray, List.set_cons_zero, List.set_cons_succ]) (hCont (v186, .slice Ao10 y188.length co10, gb191) _ ⟨hHeld, (by (with_reducible repeat (first | apply Kd.R_alloc | apply Kd.R_drewN | apply Kd.R_drew)); exact HO190.out), (by (with_reducible repeat (first | refine blk_drewN ?_ _ | refine blk_drew ?_ | refine blk_alloc ?_ _)); exact BK183.out), (by (with_reducible repeat (first | refine blk_drewN ?_ _ | refine blk_drew ?_ | refine blk_alloc ?_ _)); exact BK184.out), (by (with_reducible repeat (first | refine blk_drewN ?_ _ | refine blk_drew ?_ | refine blk_alloc ?_ _)); exact BK191.out), GW191.out, GE191.out, NB183_191.out, NB191_183.out, NB184_191.out, NB191_184.out, (by repeat (first | (with_reducible first | exact HB.out | apply below_alloc | apply pw_below_drewN | apply below_drew1 | refine below_set ?_ GE183.out | refine below_set ?_ GE184.out | refine below_set ?_ GE191.out) | exact HB.out))⟩)
    rintro ⟨v186, v189, gb191⟩ w11 ⟨hS_, h0_, h1_, h2_, h3_, h4_, h5_, h6_, h7_, h8_, h9_, h10_⟩
    have n0_ : Aside0 (Kd.R Kd.string 9 w11 w.heap.size (fun _ => True) v189 y188) := ⟨h0_⟩
    have n1_ : Aside0 (w11.heap[gb183]? = some (.cells #[.slice A0_0 l0_0.length c0_0, .slice A0_1 l0_1.length c0_1, .bool a0_2] 41 (0, 0))) := ⟨h1_⟩
    have n2_ : Aside0 (w11.heap[gb184]? = some (.cells #[.slice none 0 0, .slice none 0 0, .bool false] 41 (0, 0))) := ⟨h2_⟩
    have n3_ : Aside0 (w11.heap[gb191]? = some (.cells #[.slice none 0 0, .slice none 0 0, .bool false] 41 (0, 0))) := ⟨h3_⟩
    have n4_ : Aside0 (w.heap.size ≤ gb191) := ⟨h4_⟩
    have n5_ : Aside0 (w.heap.size ≤ gb191) := ⟨h5_⟩
    have n6_ : Aside0 (gb183 ≠ gb191) := ⟨h6_⟩
    have n7_ : Aside0 (gb191 ≠ gb183) := ⟨h7_⟩
    have n8_ : Aside0 (gb184 ≠ gb191) := ⟨h8_⟩
    have n9_ : Aside0 (gb191 ≠ gb184) := ⟨h9_⟩
    have n10_ : Aside0 (Below w.heap.size w w11) := ⟨h10_⟩
    clear BK183
    clear BK184
    clear HB
    clear h0_ h1_ h2_ h3_ h4_ h5_ h6_ h7_ h8_ h9_ h10_
    have HO190 := n0_
    have BK183 := n1_
    have BK184 := n2_
    have BK191 := n3_
    have GW191 := n4_
    have GE191 := n5_
    have NB183_191 := n6_
    have NB191_183 := n7_
    have NB184_191 := n8_
    have NB191_184 := n9_
    have HB := n10_
    clear n0_ n1_ n2_ n3_ n4_ n5_ n6_ n7_ n8_ n9_ n10_
    have hHeld : w11.cell? ⟨gb183, 0, none⟩ = some (.slice A0_0 l0_0.length c0_0) ∧ w11.cell? ⟨gb183, 1, none⟩ = some (.slice A0_1 l0_1.length c0_1) ∧ w11.cell? ⟨gb183, 2, none⟩ = some (.bool a0_2) := hS_
    obtain ⟨Ao12, co12, eo12⟩ := Kd.R_slice HO190.out
    (first | subst eo12 | (injection eo12 with f1_ f2_ f3_; have f4_ := f1_.symm; have f5_ := f3_.symm; clear f1_ f2_ f3_; subst f4_; subst f5_))
    refine norm_ (a' := ?_) ?_ ?_
    rotate_left
    · simp only [putAll, Act.put, List.setIfInBounds_toArray, List.set_cons_zero, List.set_cons_succ]
      rfl
    refine one_ (i := 8) (N := none) #[true, true, true, true, true, true, true, true, true] rfl rfl (one_of HT_.out (by kernel_rfl)) (by decide) (fun K hK => ?_)
    have hs13 : w11.cell? ⟨gb191, 0, none⟩ = some (.slice none 0 0) := (blk_cell BK191.out 0).trans rfl
    have hfs13 := blk_frozen BK191.out 0
    have hns13_0 := NB183_191.out
    have hns13_1 := NB184_191.out
    have hms13_0 := NB191_183.out
    have hms13_1 := NB191_184.out
    have hs14 : w11.cell? ⟨gb191, 1, none⟩ = some (.slice none 0 0) := (blk_cell BK191.out 1).trans rfl
    have hfs14 := blk_frozen BK191.out 1
    have hns14_0 := NB183_191.out
    have hns14_1 := NB184_191.out
    have hms14_0 := NB191_183.out
    have hms14_1 := NB191_184.out
    have hs15 : w11.cell? ⟨gb191, 2, none⟩ = some (.bool false) := (blk_cell BK191.out 2).trans rfl
    have hfs15 := blk_frozen BK191.out 2
    have hns15_0 := NB183_191.out
    have hns15_1 := NB184_191.out
    have hms15_0 := NB191_183.out
    have hms15_1 := NB191_184.out
    refine skip_ (w1 := ?_) (by rfl) rfl ?_ ?_
    rotate_left
    · go_simp
      rfl
    refine hK.out _ _ ⟨((cell_far (p := ⟨gb191, _, none⟩) NB183_191.out _).trans (((cell_far (p := ⟨gb191, _, none⟩) NB183_191.out _).trans (((cell_far (p := ⟨gb191, _, none⟩) NB183_191.out _).trans (hHeld.1)))))), ((cell_far (p := ⟨gb191, _, none⟩) NB183_191.out _).trans (((cell_far (p := ⟨gb191, _, none⟩) NB183_191.out _).trans (((cell_far (p := ⟨gb191, _, none⟩) NB183_191.out _).trans (hHeld.2.1)))))), ((cell_far (p := ⟨gb191, _, none⟩) NB183_191.out _).trans (((cell_far (p := ⟨gb191, _, none⟩) NB183_191.out _).trans (((cell_far (p := ⟨gb191, _, none⟩) NB183_191.out _).trans (hHeld.2.2))))))⟩ (fun hHeld => ?_)
    clear hK K
    refine done_ (done_of HT_.out (by kernel_rfl)) ?_
    try go_wp2
    go_loopg [4] k (fun kq v4 w' => ∃ (x4_1 : Int) (x192000_1 : List (S47)) (u192000 : Value), v4 = .int .i64 x4_1 ∧ Aside0 (thistleref02_CopyProg.l0 kq x4_1 l0_0 l0_1 a0_2 x192000_1 y188 a0_2 = some (r1, r2, r3)) ∧ Aside0 (kq ≤ k) ∧ Aside0 (Kd.S k47 47 w' w.heap.size (fun _ => True) u192000 x192000_1) ∧ Aside0 (Kd.R Kd.string 9 w' w.heap.size (fun _ => True) (.slice Ao12 y188.length co12) y188) ∧ Aside0 (w'.heap[gb183]? = some (.cells #[(.slice A0_0 l0_0.length c0_0), (.slice A0_1 l0_1.length c0_1), .bool a0_2] 41 (0, 0))) ∧ Aside0 (w'.heap[gb184]? = some (.cells #[(.slice none 0 0), (.slice none 0 0), .bool false] 41 (0, 0))) ∧ Aside0 (w'.heap[gb191]? = some (.cells #[u192000, (.slice Ao12 y188.length co12), .bool a0_2] 41 (0, 0))) ∧ Aside0 (Below w.heap.size w w'))
    case atStart => exact ⟨(0), (([] : List (S47))), (.slice none 0 0), (by first | rfl | (simp; done) | (simp [*]; done)), H', ⟨Nat.le_refl _⟩, ⟨by first | exact Kd.S_nil _ _ _ _ _ | exact Kd.N_nil _ _ _ _ _ | exact Kd.V_nil _ _ _ _ _ | exact Kd.Q_nil _ _ _ _ _ | exact Kd.R_nil _ _ _ _ _⟩, ⟨by (with_reducible repeat (first | apply Kd.R_alloc | apply Kd.R_drewN | apply Kd.R_drew)); exact Kd.R_mono (Kd.R_far (p := ⟨gb191, 2, none⟩) (Kd.R_far (p := ⟨gb191, 1, none⟩) (Kd.R_far (p := ⟨gb191, 0, none⟩) (Kd.R_types HO190.out BK191.out (by decide)) (fun _ hk => hk.2) (.slice none 0 0)) (fun _ hk => hk.2) (.slice Ao12 y188.length co12)) (fun _ hk => hk.2) (.bool a0_2)) (fun _ hk => trivial)⟩, ⟨by (with_reducible repeat (first | refine blk_drewN ?_ _ | refine blk_drew ?_ | refine blk_alloc ?_ _)); refine blk_far ?_ NB183_191.out _; (with_reducible repeat (first | refine blk_drewN ?_ _ | refine blk_drew ?_ | refine blk_alloc ?_ _)); refine blk_far ?_ NB183_191.out _; (with_reducible repeat (first | refine blk_drewN ?_ _ | refine blk_drew ?_ | refine blk_alloc ?_ _)); refine blk_far ?_ NB183_191.out _; (with_reducible repeat (first | refine blk_drewN ?_ _ | refine blk_drew ?_ | refine blk_alloc ?_ _)); exact BK183.out⟩, ⟨by (with_reducible repeat (first | refine blk_drewN ?_ _ | refine blk_drew ?_ | refine blk_alloc ?_ _)); refine blk_far ?_ NB184_191.out _; (with_reducible repeat (first | refine blk_drewN ?_ _ | refine blk_drew ?_ | refine blk_alloc ?_ _)); refine blk_far ?_ NB184_191.out _; (with_reducible repeat (first | refine blk_drewN ?_ _ | refine blk_drew ?_ | refine blk_alloc ?_ _)); refine blk_far ?_ NB184_191.out _; (with_reducible repeat (first | refine blk_drewN ?_ _ | refine blk_drew ?_ | refine blk_alloc ?_ _)); exact BK184.out⟩, ⟨by (with_reducible repeat (first | refine blk_drewN ?_ _ | refine blk_drew ?_ | refine blk_alloc ?_ _)); refine blk_put (cs := #[.slice none 0 0, .slice Ao12 y188.length co12, .bool false]) ?_ 2 _ rfl; (with_reducible repeat (first | refine blk_drewN ?_ _ | refine blk_drew ?_ | refine blk_alloc ?_ _)); refine blk_put (cs := #[.slice none 0 0, .slice none 0 0, .bool false]) ?_ 1 _ rfl; (with_reducible repeat (first | refine blk_drewN ?_ _ | refine blk_drew ?_ | refine blk_alloc ?_ _)); refine blk_put (cs := #[.slice none 0 0, .slice none 0 0, .bool false]) ?_ 0 _ rfl; (with_reducible repeat (first | refine blk_drewN ?_ _ | refine blk_drew ?_ | refine blk_alloc ?_ _)); exact BK191.out⟩, ⟨by repeat (first | (with_reducible first | exact HB.out | apply below_alloc | apply pw_below_drewN | apply below_drew1 | refine below_set ?_ GE183.out | refine below_set ?_ GE184.out | refine below_set ?_ GE191.out) | exact HB.out)⟩⟩
    case round =>
      clear H'
      try clear c2
      try clear p2
      try clear c3
      obtain ⟨x4_1, x192000_1, u192000, rfl, HA, HK1, HO_192000, HO_192001, BK183, BK184, BK191, HB⟩ := hrel
      cases gk with
      | zero => exact absurd HA.out (by simp [thistleref02_CopyProg.l0])
      | succ k1 =>
        have H := HA.out
        clear HA
        simp only [thistleref02_CopyProg.l0] at H
        by_cases c16 : x4_1 < (l0_0.length : Int)
        · rw [if_pos c16] at H
          have c16b0 : decide (x4_1 < (l0_0.length : Int)) = true := decide_eq_true c16
          clear c16
          by_cases c17 : 0 ≤ x4_1
          · rw [if_pos c17] at H
            have c17b0 : decide (0 ≤ x4_1) = true := decide_eq_true c17
            clear c17
            obtain ⟨y194, hy194⟩ : ∃ y_ : List (S96), y_ = (([] : List (S96))) := ⟨_, rfl⟩
            replace H : (if y194.length + ((rd_T47 l0_0 x4_1).f1).length < 17592186044416 then (if x192000_1.length < 2513169434916 then (thistleref02_CopyProg.l0 k1 (wrap64 (x4_1 + 1)) l0_0 l0_1 a0_2 (x192000_1 ++ [(⟨(rd_T47 l0_0 x4_1).f0, (y194 ++ ((rd_T47 l0_0 x4_1).f1)), (rd_T47 l0_0 x4_1).f2, (rd_T47 l0_0 x4_1).f3, (rd_T47 l0_0 x4_1).f4⟩ : S47)]) y188 a0_2) else (none)) else (none)) = some (r1, r2, r3) := by first | (rw [hy194]; with_reducible exact H) | (have H2_ := (Option.bind_some _ _).symm.trans H; rw [hy194]; with_reducible exact H2_) | (have H2_ := (Option.bind_some _ _).symm.trans H; with_reducible exact H2_) | with_reducible exact H | (rw [hy194]; exact H) | exact H
            have Ny194 := Aside0.mk hy194
            clear hy194
            by_cases c18 : y194.length + ((rd_T47 l0_0 x4_1).f1).length < 17592186044416
            · rw [if_pos c18] at H
              have LMc18 := Aside0.mk c18
              clear c18
              obtain ⟨y197, hy197⟩ : ∃ y_ : List (S96), y_ = (y194 ++ ((rd_T47 l0_0 x4_1).f1)) := ⟨_, rfl⟩
              replace H : (if x192000_1.length < 2513169434916 then (thistleref02_CopyProg.l0 k1 (wrap64 (x4_1 + 1)) l0_0 l0_1 a0_2 (x192000_1 ++ [(⟨(rd_T47 l0_0 x4_1).f0, y197, (rd_T47 l0_0 x4_1).f2, (rd_T47 l0_0 x4_1).f3, (rd_T47 l0_0 x4_1).f4⟩ : S47)]) y188 a0_2) else (none)) = some (r1, r2, r3) := by first | (rw [hy197]; with_reducible exact H) | (have H2_ := (Option.bind_some _ _).symm.trans H; rw [hy197]; with_reducible exact H2_) | (have H2_ := (Option.bind_some _ _).symm.trans H; with_reducible exact H2_) | with_reducible exact H | (rw [hy197]; exact H) | exact H
              have Ny197 := Aside0.mk hy197
              clear hy197
              by_cases c19 : x192000_1.length < 2513169434916
              · rw [if_pos c19] at H
                have LMc19 := Aside0.mk c19
                clear c19
                obtain ⟨y200, hy200⟩ : ∃ y_ : List (S47), y_ = (x192000_1 ++ [(⟨(rd_T47 l0_0 x4_1).f0, y197, (rd_T47 l0_0 x4_1).f2, (rd_T47 l0_0 x4_1).f3, (rd_T47 l0_0 x4_1).f4⟩ : S47)]) := ⟨_, rfl⟩
                replace H : (thistleref02_CopyProg.l0 k1 (wrap64 (x4_1 + 1)) l0_0 l0_1 a0_2 y200 y188 a0_2) = some (r1, r2, r3) := by first | (rw [hy200]; with_reducible exact H) | (have H2_ := (Option.bind_some _ _).symm.trans H; rw [hy200]; with_reducible exact H2_) | (have H2_ := (Option.bind_some _ _).symm.trans H; with_reducible exact H2_) | with_reducible exact H | (rw [hy200]; exact H) | exact H
                have Ny200 := Aside0.mk hy200
                clear hy200
                have H' := Aside0.mk H
                clear H
                have hnb20 := NB183_184.out
                have hnc20 := NB184_183.out
                have hnb21 := NB183_191.out
                have hnc21 := NB191_183.out
                have hcz22_0 : wr.cell? ⟨gb183, 0, none⟩ = some (.slice A0_0 l0_0.length c0_0) := (blk_cell BK183.out 0).trans rfl
                have hcz22_1 : wr.cell? ⟨gb183, 1, none⟩ = some (.slice A0_1 l0_1.length c0_1) := (blk_cell BK183.out 1).trans rfl
                have hcz22_2 : wr.cell? ⟨gb183, 2, none⟩ = some (.bool a0_2) := (blk_cell BK183.out 2).trans rfl
                have hfz22_0 := blk_frozen BK183.out 0
                have hfz22_1 := blk_frozen BK183.out 1
                have hfz22_2 := blk_frozen BK183.out 2
                have p192 : 0 ≤ (x4_1 : Int) := of_decide_eq_true (by first | (with_reducible assumption) | assumption)
                have q192 : x4_1 < (l0_0.length : Int) := of_decide_eq_true (by first | (with_reducible assumption) | assumption)
                obtain ⟨ad192, A192_1, c192_1, e192, hx192_0, hx192_1, hx192_2, hx192_3, hx192_4, hl192_1, hi192_1⟩ := at_T47 HR0_0.out x4_1 p192 q192
                cases e192
                replace hx192_0 := (HB.out.cell (World.block_lt_of_cell? w _ hx192_0)).trans hx192_0
                replace hx192_1 := (HB.out.cell (World.block_lt_of_cell? w _ hx192_1)).trans hx192_1
                replace hx192_2 := (HB.out.cell (World.block_lt_of_cell? w _ hx192_2)).trans hx192_2
                replace hx192_3 := (HB.out.cell (World.block_lt_of_cell? w _ hx192_3)).trans hx192_3
                replace hx192_4 := (HB.out.cell (World.block_lt_of_cell? w _ hx192_4)).trans hx192_4
                have HR192_1 := Aside0.mk hi192_1
                have HC192_1 := Aside0.mk hl192_1
                clear hi192_1 hl192_1
                replace p192 := eq_true p192
                replace q192 := eq_true q192
                go_wp2_with (first | ((with_reducible refine gate_dst (N := 5) rfl ?_); refine box_event ?hg (N := 5) ?hd (cs := #[.int .i64 0, .slice none 0 0, .int .i64 0, .int .i64 0, .int .i64 0]) (t := 47) ?hr ?_; (case hd => rfl); (case hg => rfl); (case hr => first | (go_simp; done) | (go_simp; rfl)); intro gb193 hg w23 hbox hb; have n0_ := Aside0.mk (Kd.S_below (Kd.S_elderB (by (with_reducible repeat (first | apply Kd.S_alloc | apply Kd.S_drewN | apply Kd.S_drew)); exact HO_192000.out) gb193 (Nat.le_of_eq hg.symm)) hb); have n1_ := Aside0.mk (Kd.R_below (by (with_reducible repeat (first | apply Kd.R_alloc | apply Kd.R_drewN | apply Kd.R_drew)); exact HO_192001.out) hb); have n2_ := Aside0.mk (blk_below (g := gb183) (o := .cells #[.slice (some ad192) l0_0.length c0_0, .slice A0_1 l0_1.length c0_1, .bool a0_2] 41 (0, 0)) (by (with_reducible repeat (first | refine blk_drewN ?_ _ | refine blk_drew ?_ | refine blk_alloc ?_ _)); exact BK183.out) hb); have n3_ := Aside0.mk (blk_below (g := gb184) (o := .cells #[.slice none 0 0, .slice none 0 0, .bool false] 41 (0, 0)) (by (with_reducible repeat (first | refine blk_drewN ?_ _ | refine blk_drew ?_ | refine blk_alloc ?_ _)); exact BK184.out) hb); have n4_ := Aside0.mk (blk_below (g := gb191) (o := .cells #[u192000, .slice Ao12 y188.length co12, .bool a0_2] 41 (0, 0)) (by (with_reducible repeat (first | refine blk_drewN ?_ _ | refine blk_drew ?_ | refine blk_alloc ?_ _)); exact BK191.out) hb); have n5_ := Aside0.mk (below_step (by repeat (first | (with_reducible first | exact HB.out | apply below_alloc | apply pw_below_drewN | apply below_drew1 | refine below_set ?_ GE183.out | refine below_set ?_ GE184.out | refine below_set ?_ GE191.out) | exact HB.out)) hb); have n6_ := Aside0.mk (hbox); have n7_ := Aside0.mk ((by rw [hg]; exact (below_size (by repeat (first | (with_reducible first | exact HB.out | apply below_alloc | apply pw_below_drewN | apply below_drew1 | refine below_set ?_ GE183.out | refine below_set ?_ GE184.out | refine below_set ?_ GE191.out) | exact HB.out))) : w.heap.size ≤ gb193)); have n8_ := Aside0.mk ((by rw [hg]; exact (below_size (by repeat (first | (with_reducible first | exact HB.out | apply below_alloc | apply pw_below_drewN | apply below_drew1 | refine below_set ?_ GE183.out | refine below_set ?_ GE184.out | refine below_set ?_ GE191.out) | exact HB.out))) : w.heap.size ≤ gb193)); have n9_ := Aside0.mk ((by rw [hg]; exact Nat.ne_of_lt (blk_lt (g := gb183) (o := .cells #[.slice (some ad192) l0_0.length c0_0, .slice A0_1 l0_1.length c0_1, .bool a0_2] 41 (0, 0)) (by (with_reducible repeat (first | refine blk_drewN ?_ _ | refine blk_drew ?_ | refine blk_alloc ?_ _)); exact BK183.out)) : gb183 ≠ gb193)); have n10_ := Aside0.mk ((by rw [hg]; exact Nat.ne_of_gt (blk_lt (g := gb183) (o := .cells #[.slice (some ad192) l0_0.length c0_0, .slice A0_1 l0_1.length c0_1, .bool a0_2] 41 (0, 0)) (by (with_reducible repeat (first | refine blk_drewN ?_ _ | refine blk_drew ?_ | refine blk_alloc ?_ _)); exact BK183.out)) : gb193 ≠ gb183)); have n11_ := Aside0.mk ((by rw [hg]; exact Nat.ne_of_lt (blk_lt (g := gb184) (o := .cells #[.slice none 0 0, .slice none 0 0, .bool false] 41 (0, 0)) (by (with_reducible repeat (first | refine blk_drewN ?_ _ | refine blk_drew ?_ | refine blk_alloc ?_ _)); exact BK184.out)) : gb184 ≠ gb193)); have n12_ := Aside0.mk ((by rw [hg]; exact Nat.ne_of_gt (blk_lt (g := gb184) (o := .cells #[.slice none 0 0, .slice none 0 0, .bool false] 41 (0, 0)) (by (with_reducible repeat (first | refine blk_drewN ?_ _ | refine blk_drew ?_ | refine blk_alloc ?_ _)); exact BK184.out)) : gb193 ≠ gb184)); have n13_ := Aside0.mk ((by rw [hg]; exact Nat.ne_of_lt (blk_lt (g := gb191) (o := .cells #[u192000, .slice Ao12 y188.length co12, .bool a0_2] 41 (0, 0)) (by (with_reducible repeat (first | refine blk_drewN ?_ _ | refine blk_drew ?_ | refine blk_alloc ?_ _)); exact BK191.out)) : gb191 ≠ gb193)); have n14_ := Aside0.mk ((by rw [hg]; exact Nat.ne_of_gt (blk_lt (g := gb191) (o := .cells #[u192000, .slice Ao12 y188.length co12, .bool a0_2] 41 (0, 0)) (by (with_reducible repeat (first | refine blk_drewN ?_ _ | refine blk_drew ?_ | refine blk_alloc ?_ _)); exact BK191.out)) : gb193 ≠ gb191)); clear HO_192000; clear HO_192001; clear BK183; clear BK184; clear BK191; clear HB; have HO_192000 := n0_; have HO_192001 := n1_; have BK183 := n2_; have BK184 := n3_; have BK191 := n4_; have HB := n5_; have BK193 := n6_; have GW193 := n7_; have GE193 := n8_; have NB183_193 := n9_; have NB193_183 := n10_; have NB184_193 := n11_; have NB193_184 := n12_; have NB191_193 := n13_; have NB193_191 := n14_; clear n0_ n1_ n2_ n3_ n4_ n5_ n6_ n7_ n8_ n9_ n10_ n11_ n12_ n13_ n14_; clear hb hbox hg; have hnb24 := NB193_183.out; have hnc24 := NB183_193.out; have hnb25 := NB193_184.out; have hnc25 := NB184_193.out; have hnb26 := NB193_191.out; have hnc26 := NB191_193.out; have hcz27_0 : w23.cell? ⟨gb193, 0, none⟩ = some (.int .i64 0) := (blk_cell BK193.out 0).trans rfl; have hcz27_1 : w23.cell? ⟨gb193, 1, none⟩ = some (.slice none 0 0) := (blk_cell BK193.out 1).trans rfl; have hcz27_2 : w23.cell? ⟨gb193, 2, none⟩ = some (.int .i64 0) := (blk_cell BK193.out 2).trans rfl; have hcz27_3 : w23.cell? ⟨gb193, 3, none⟩ = some (.int .i64 0) := (blk_cell BK193.out 3).trans rfl; have hcz27_4 : w23.cell? ⟨gb193, 4, none⟩ = some (.int .i64 0) := (blk_cell BK193.out 4).trans rfl; have hfz27_0 := blk_frozen BK193.out 0; have hfz27_1 := blk_frozen BK193.out 1; have hfz27_2 := blk_frozen BK193.out 2; have hfz27_3 := blk_frozen BK193.out 3; have hfz27_4 := blk_frozen BK193.out 4) | ((with_reducible refine gate_dst (N := 25) rfl ?_); refine Kd.R_lit k96 _ 96 ?hg (N := 25) ?hd (xs := ([] : List (S96))) (inner := []) (ok := fun _ => True) (okp := fun _ => True) ?hr ?hp (fun _ hk => hk) trivial (Below.refl _ _) (Nat.le_refl _) (by simp) ?_; (case hd => rfl); (case hg => rfl); (case hr => first | (go_simp; done) | (go_simp; rfl)); (case hp => exact (Reps.none _ _)); intro v195 w28 ho29 hb hg_ hnew_; clear hg_ hnew_; (first | rw [← Ny194.out] at ho29 | (simp only [Int.reduceToNat] at ho29; rw [← Ny194.out] at ho29)); have n0_ := Aside0.mk (Kd.S_elder' (by (with_reducible repeat (first | apply Kd.S_alloc | apply Kd.S_drewN | apply Kd.S_drew)); exact (Kd.S_mono (Kd.S_far (p := ⟨gb193, 4, none⟩) (Kd.S_far (p := ⟨gb193, 3, none⟩) (Kd.S_far (p := ⟨gb193, 2, none⟩) (Kd.S_far (p := ⟨gb193, 1, none⟩) (Kd.S_far (p := ⟨gb193, 0, none⟩) (Kd.S_mono HO_192000.out (fun k_ hk => (⟨hk, hk.2⟩ : _ ∧ k_ ≠ gb193))) (fun _ hk => hk.2) (.int .i64 ((rd_T47 l0_0 x4_1).f0))) (fun _ hk => hk.2) (.slice A192_1 ((rd_T47 l0_0 x4_1).f1).length c192_1)) (fun _ hk => hk.2) (.int .i64 ((rd_T47 l0_0 x4_1).f2))) (fun _ hk => hk.2) (.int .i64 ((rd_T47 l0_0 x4_1).f3))) (fun _ hk => hk.2) (.int .i64 ((rd_T47 l0_0 x4_1).f4))) (fun _ h_ => h_.1))) (Kd.R_base ho29) hb); have n1_ := Aside0.mk (Kd.R_below (by (with_reducible repeat (first | apply Kd.R_alloc | apply Kd.R_drewN | apply Kd.R_drew)); exact (Kd.R_mono (Kd.R_far (p := ⟨gb193, 4, none⟩) (Kd.R_far (p := ⟨gb193, 3, none⟩) (Kd.R_far (p := ⟨gb193, 2, none⟩) (Kd.R_far (p := ⟨gb193, 1, none⟩) (Kd.R_far (p := ⟨gb193, 0, none⟩) (Kd.R_types HO_192001.out BK193.out (by decide)) (fun _ hk => hk.2) (.int .i64 ((rd_T47 l0_0 x4_1).f0))) (fun _ hk => hk.2) (.slice A192_1 ((rd_T47 l0_0 x4_1).f1).length c192_1)) (fun _ hk => hk.2) (.int .i64 ((rd_T47 l0_0 x4_1).f2))) (fun _ hk => hk.2) (.int .i64 ((rd_T47 l0_0 x4_1).f3))) (fun _ hk => hk.2) (.int .i64 ((rd_T47 l0_0 x4_1).f4))) (fun _ h_ => h_.1))) hb); have n2_ := Aside0.mk (Kd.R_lower ho29 (below_size (by repeat (first | (with_reducible first | exact HB.out | apply below_alloc | apply pw_below_drewN | apply below_drew1 | refine below_set ?_ GE183.out | refine below_set ?_ GE184.out | refine below_set ?_ GE191.out | refine below_set ?_ GE193.out) | exact HB.out)))); have n3_ := Aside0.mk (blk_below (g := gb183) (o := .cells #[.slice (some ad192) l0_0.length c0_0, .slice A0_1 l0_1.length c0_1, .bool a0_2] 41 (0, 0)) (by (with_reducible repeat (first | refine blk_drewN ?_ _ | refine blk_drew ?_ | refine blk_alloc ?_ _)); refine blk_far ?_ NB183_193.out _; (with_reducible repeat (first | refine blk_drewN ?_ _ | refine blk_drew ?_ | refine blk_alloc ?_ _)); refine blk_far ?_ NB183_193.out _; (with_reducible repeat (first | refine blk_drewN ?_ _ | refine blk_drew ?_ | refine blk_alloc ?_ _)); refine blk_far ?_ NB183_193.out _; (with_reducible repeat (first | refine blk_drewN ?_ _ | refine blk_drew ?_ | refine blk_alloc ?_ _)); refine blk_far ?_ NB183_193.out _; (with_reducible repeat (first | refine blk_drewN ?_ _ | refine blk_drew ?_ | refine blk_alloc ?_ _)); refine blk_far ?_ NB183_193.out _; (with_reducible repeat (first | refine blk_drewN ?_ _ | refine blk_drew ?_ | refine blk_alloc ?_ _)); exact BK183.out) hb); have n4_ := Aside0.mk (blk_below (g := gb184) (o := .cells #[.slice none 0 0, .slice none 0 0, .bool false] 41 (0, 0)) (by (with_reducible repeat (first | refine blk_drewN ?_ _ | refine blk_drew ?_ | refine blk_alloc ?_ _)); refine blk_far ?_ NB184_193.out _; (with_reducible repeat (first | refine blk_drewN ?_ _ | refine blk_drew ?_ | refine blk_alloc ?_ _)); refine blk_far ?_ NB184_193.out _; (with_reducible repeat (first | refine blk_drewN ?_ _ | refine blk_drew ?_ | refine blk_alloc ?_ _)); refine blk_far ?_ NB184_193.out _; (with_reducible repeat (first | refine blk_drewN ?_ _ | refine blk_drew ?_ | refine blk_alloc ?_ _)); refine blk_far ?_ NB184_193.out _; (with_reducible repeat (first | refine blk_drewN ?_ _ | refine blk_drew ?_ | refine blk_alloc ?_ _)); refine blk_far ?_ NB184_193.out _; (with_reducible repeat (first | refine blk_drewN ?_ _ | refine blk_drew ?_ | refine blk_alloc ?_ _)); exact BK184.out) hb); have n5_ := Aside0.mk (blk_below (g := gb191) (o := .cells #[u192000, .slice Ao12 y188.length co12, .bool a0_2] 41 (0, 0)) (by (with_reducible repeat (first | refine blk_drewN ?_ _ | refine blk_drew ?_ | refine blk_alloc ?_ _)); refine blk_far ?_ NB191_193.out _; (with_reducible repeat (first | refine blk_drewN ?_ _ | refine blk_drew ?_ | refine blk_alloc ?_ _)); refine blk_far ?_ NB191_193.out _; (with_reducible repeat (first | refine blk_drewN ?_ _ | refine blk_drew ?_ | refine blk_alloc ?_ _)); refine blk_far ?_ NB191_193.out _; (with_reducible repeat (first | refine blk_drewN ?_ _ | refine blk_drew ?_ | refine blk_alloc ?_ _)); refine blk_far ?_ NB191_193.out _; (with_reducible repeat (first | refine blk_drewN ?_ _ | refine blk_drew ?_ | refine blk_alloc ?_ _)); refine blk_far ?_ NB191_193.out _; (with_reducible repeat (first | refine blk_drewN ?_ _ | refine blk_drew ?_ | refine blk_alloc ?_ _)); exact BK191.out) hb); have n6_ := Aside0.mk (blk_below (g := gb193) (o := .cells #[.int .i64 ((rd_T47 l0_0 x4_1).f0), .slice A192_1 ((rd_T47 l0_0 x4_1).f1).length c192_1, .int .i64 ((rd_T47 l0_0 x4_1).f2), .int .i64 ((rd_T47 l0_0 x4_1).f3), .int .i64 ((rd_T47 l0_0 x4_1).f4)] 47 (0, 0)) (by (with_reducible repeat (first | refine blk_drewN ?_ _ | refine blk_drew ?_ | refine blk_alloc ?_ _)); refine blk_put (cs := #[.int .i64 ((rd_T47 l0_0 x4_1).f0), .slice A192_1 ((rd_T47 l0_0 x4_1).f1).length c192_1, .int .i64 ((rd_T47 l0_0 x4_1).f2), .int .i64 ((rd_T47 l0_0 x4_1).f3), .int .i64 0]) ?_ 4 _ rfl; (with_reducible repeat (first | refine blk_drewN ?_ _ | refine blk_drew ?_ | refine blk_alloc ?_ _)); refine blk_put (cs := #[.int .i64 ((rd_T47 l0_0 x4_1).f0), .slice A192_1 ((rd_T47 l0_0 x4_1).f1).length c192_1, .int .i64 ((rd_T47 l0_0 x4_1).f2), .int .i64 0, .int .i64 0]) ?_ 3 _ rfl; (with_reducible repeat (first | refine blk_drewN ?_ _ | refine blk_drew ?_ | refine blk_alloc ?_ _)); refine blk_put (cs := #[.int .i64 ((rd_T47 l0_0 x4_1).f0), .slice A192_1 ((rd_T47 l0_0 x4_1).f1).length c192_1, .int .i64 0, .int .i64 0, .int .i64 0]) ?_ 2 _ rfl; (with_reducible repeat (first | refine blk_drewN ?_ _ | refine blk_drew ?_ | refine blk_alloc ?_ _)); refine blk_put (cs := #[.int .i64 ((rd_T47 l0_0 x4_1).f0), .slice none 0 0, .int .i64 0, .int .i64 0, .int .i64 0]) ?_ 1 _ rfl; (with_reducible repeat (first | refine blk_drewN ?_ _ | refine blk_drew ?_ | refine blk_alloc ?_ _)); refine blk_put (cs := #[.int .i64 0, .slice none 0 0, .int .i64 0, .int .i64 0, .int .i64 0]) ?_ 0 _ rfl; (with_reducible repeat (first | refine blk_drewN ?_ _ | refine blk_drew ?_ | refine blk_alloc ?_ _)); exact BK193.out) hb); have n7_ := Aside0.mk (below_step (by repeat (first | (with_reducible first | exact HB.out | apply below_alloc | apply pw_below_drewN | apply below_drew1 | refine below_set ?_ GE183.out | refine below_set ?_ GE184.out | refine below_set ?_ GE191.out | refine below_set ?_ GE193.out) | exact HB.out)) hb); clear HO_192000; clear HO_192001; clear BK183; clear BK184; clear BK191; clear BK193; clear HB; have HO_192000 := n0_; have HO_192001 := n1_; have HO196 := n2_; have BK183 := n3_; have BK184 := n4_; have BK191 := n5_; have BK193 := n6_; have HB := n7_; clear n0_ n1_ n2_ n3_ n4_ n5_ n6_ n7_; clear hb ho29; have hcz30_0 : w28.cell? ⟨gb193, 0, none⟩ = some (.int .i64 ((rd_T47 l0_0 x4_1).f0)) := (blk_cell BK193.out 0).trans rfl; have hcz30_1 : w28.cell? ⟨gb193, 1, none⟩ = some (.slice A192_1 ((rd_T47 l0_0 x4_1).f1).length c192_1) := (blk_cell BK193.out 1).trans rfl; have hcz30_2 : w28.cell? ⟨gb193, 2, none⟩ = some (.int .i64 ((rd_T47 l0_0 x4_1).f2)) := (blk_cell BK193.out 2).trans rfl; have hcz30_3 : w28.cell? ⟨gb193, 3, none⟩ = some (.int .i64 ((rd_T47 l0_0 x4_1).f3)) := (blk_cell BK193.out 3).trans rfl; have hcz30_4 : w28.cell? ⟨gb193, 4, none⟩ = some (.int .i64 ((rd_T47 l0_0 x4_1).f4)) := (blk_cell BK193.out 4).trans rfl; have hfz30_0 := blk_frozen BK193.out 0; have hfz30_1 := blk_frozen BK193.out 1; have hfz30_2 := blk_frozen BK193.out 2; have hfz30_3 := blk_frozen BK193.out 3; have hfz30_4 := blk_frozen BK193.out 4) | ((with_reducible refine gate_builtin (b := .append) (xs := #[.tmp 25, .tmp 27]) rfl ?_); at_builtin; refine Kd.R_append_rows k96 (w0 := w) w.heap.size rfl (.tmp 25) (.tmp 27) 45 96 (.agg #[(.int .i32 0), (.int .i32 0)]) 8 rfl Tryd.underlying45 info96 rfl (by decide) (by omega) v195 y194 ((rd_T47 l0_0 x4_1).f1) _ _ _ (fun _ => True) (fun _ => False) rfl rfl ?aO ?aR (fun _ _ h => h) (fun _ h => h.elim) ?aF ?aB ?aS ?aL ?_; (case aR => repeat (first | exact (Kd.C_below HR192_1.out HB.out) | (with_reducible refine Kd.C_alloc ?_ _) | (with_reducible refine Kd.C_drewN ?_ _) | (with_reducible refine Kd.C_drew ?_))); (case aB => exact (by repeat (first | (with_reducible first | exact HB.out | apply below_alloc | apply pw_below_drewN | apply below_drew1 | refine below_set ?_ GE183.out | refine below_set ?_ GE184.out | refine below_set ?_ GE191.out | refine below_set ?_ GE193.out) | exact HB.out))); (case aF => exact (fun _ _ => trivial)); (case aO => exact (by (with_reducible repeat (first | apply Kd.R_alloc | apply Kd.R_drewN | apply Kd.R_drew)); exact HO196.out)); (case aS => exact (below_size (by repeat (first | (with_reducible first | exact HB.out | apply below_alloc | apply pw_below_drewN | apply below_drew1 | refine below_set ?_ GE183.out | refine below_set ?_ GE184.out | refine below_set ?_ GE191.out | refine below_set ?_ GE193.out) | exact HB.out)))); (case aL => have := LMc18.out; omega); intro v198 w31 ho hb hg hat; rw [← Ny197.out] at ho; have n0_ := Aside0.mk (Kd.S_after (ok := (fun k_ => k_ ≠ gb193)) (by (with_reducible repeat (first | apply Kd.S_alloc | apply Kd.S_drewN | apply Kd.S_drew)); exact Kd.S_mono HO_192000.out (fun _ hk => ⟨hk.1.2, hk.2⟩)) hg hat); have n1_ := Aside0.mk (Kd.R_over' (by (with_reducible repeat (first | apply Kd.R_alloc | apply Kd.R_drewN | apply Kd.R_drew)); exact HO_192001.out) (Kd.R_typed (by (with_reducible repeat (first | apply Kd.R_alloc | apply Kd.R_drewN | apply Kd.R_drew)); exact HO196.out)) (by decide) hg); have n2_ := Aside0.mk (blk_grown (g := gb183) (o := .cells #[.slice (some ad192) l0_0.length c0_0, .slice A0_1 l0_1.length c0_1, .bool a0_2] 41 (0, 0)) (by (with_reducible repeat (first | refine blk_drewN ?_ _ | refine blk_drew ?_ | refine blk_alloc ?_ _)); exact BK183.out) hg (Kd.R_ne HO196.out BK183.out (by decide))); have n3_ := Aside0.mk (blk_grown (g := gb184) (o := .cells #[.slice none 0 0, .slice none 0 0, .bool false] 41 (0, 0)) (by (with_reducible repeat (first | refine blk_drewN ?_ _ | refine blk_drew ?_ | refine blk_alloc ?_ _)); exact BK184.out) hg (Kd.R_ne HO196.out BK184.out (by decide))); have n4_ := Aside0.mk (blk_grown (g := gb191) (o := .cells #[u192000, .slice Ao12 y188.length co12, .bool a0_2] 41 (0, 0)) (by (with_reducible repeat (first | refine blk_drewN ?_ _ | refine blk_drew ?_ | refine blk_alloc ?_ _)); exact BK191.out) hg (Kd.R_ne HO196.out BK191.out (by decide))); have n5_ := Aside0.mk (blk_grown (g := gb193) (o := .cells #[.int .i64 ((rd_T47 l0_0 x4_1).f0), .slice A192_1 ((rd_T47 l0_0 x4_1).f1).length c192_1, .int .i64 ((rd_T47 l0_0 x4_1).f2), .int .i64 ((rd_T47 l0_0 x4_1).f3), .int .i64 ((rd_T47 l0_0 x4_1).f4)] 47 (0, 0)) (by (with_reducible repeat (first | refine blk_drewN ?_ _ | refine blk_drew ?_ | refine blk_alloc ?_ _)); exact BK193.out) hg (Kd.R_ne HO196.out BK193.out (by decide))); have n6_ := Aside0.mk (hb); have n7_ := Aside0.mk (ho); clear HO_192000; clear HO_192001; clear BK183; clear BK184; clear BK191; clear BK193; clear HB; clear HO196; have HO_192000 := n0_; have HO_192001 := n1_; have BK183 := n2_; have BK184 := n3_; have BK191 := n4_; have BK193 := n5_; have HB := n6_; have HO199 := n7_; clear n0_ n1_ n2_ n3_ n4_ n5_ n6_ n7_; clear ho hb hg hat; obtain ⟨Ao32, co32, eo32⟩ := Kd.R_slice HO199.out; subst eo32; have hcz33_0 : w31.cell? ⟨gb193, 0, none⟩ = some (.int .i64 ((rd_T47 l0_0 x4_1).f0)) := (blk_cell BK193.out 0).trans rfl; have hcz33_1 : w31.cell? ⟨gb193, 1, none⟩ = some (.slice A192_1 ((rd_T47 l0_0 x4_1).f1).length c192_1) := (blk_cell BK193.out 1).trans rfl; have hcz33_2 : w31.cell? ⟨gb193, 2, none⟩ = some (.int .i64 ((rd_T47 l0_0 x4_1).f2)) := (blk_cell BK193.out 2).trans rfl; have hcz33_3 : w31.cell? ⟨gb193, 3, none⟩ = some (.int .i64 ((rd_T47 l0_0 x4_1).f3)) := (blk_cell BK193.out 3).trans rfl; have hcz33_4 : w31.cell? ⟨gb193, 4, none⟩ = some (.int .i64 ((rd_T47 l0_0 x4_1).f4)) := (blk_cell BK193.out 4).trans rfl; have hfz33_0 := blk_frozen BK193.out 0; have hfz33_1 := blk_frozen BK193.out 1; have hfz33_2 := blk_frozen BK193.out 2; have hfz33_3 := blk_frozen BK193.out 3; have hfz33_4 := blk_frozen BK193.out 4) | ((with_reducible refine gate_store (t := 45) (p := 29) rfl ?_); refine store_event (t := 45) (p := 29) (v := ?vo_w34) (w1 := (w31.setCell ⟨gb193, 1, none⟩ (.slice Ao32 y197.length co32))) ?hg ?ho ?hn ?hr ?_; (case ho => rfl); (case hg => rfl); (case hn => rfl); (case hr => first | (go_simp; done) | (go_simp; rfl)); intro w34 hw; have n0_ : Aside0 (Kd.S k47 47 w34 w.heap.size (fun k_ => some k_ ≠ (.slice Ao32 y197.length co32 : Value).ownBlock ∧ k_ ≠ gb193) u192000 x192000_1) := ⟨(by rw [hw]; exact (by (with_reducible repeat (first | apply Kd.S_alloc | apply Kd.S_drewN | apply Kd.S_drew)); exact Kd.S_mono (Kd.S_far (p := ⟨gb193, 1, none⟩) (Kd.S_mono HO_192000.out (fun k_ hk => (⟨hk, hk.1⟩ : _ ∧ k_ ≠ gb193))) (fun _ hk => hk.2) (.slice Ao32 y197.length co32)) (fun _ hk => ⟨hk.1.2, hk.1.1⟩)))⟩; have n1_ : Aside0 (Kd.R Kd.string 9 w34 w.heap.size (fun _ => True) (.slice Ao12 y188.length co12) y188) := ⟨(by rw [hw]; exact (by (with_reducible repeat (first | apply Kd.R_alloc | apply Kd.R_drewN | apply Kd.R_drew)); exact Kd.R_mono (Kd.R_far (p := ⟨gb193, 1, none⟩) (Kd.R_types HO_192001.out BK193.out (by decide)) (fun _ hk => hk.2) (.slice Ao32 y197.length co32)) (fun _ hk => trivial)))⟩; have n2_ : Aside0 (Kd.R k96 96 w34 w.heap.size (fun _ => True) (.slice Ao32 y197.length co32) y197) := ⟨(by rw [hw]; exact (by (with_reducible repeat (first | apply Kd.R_alloc | apply Kd.R_drewN | apply Kd.R_drew)); exact Kd.R_mono (Kd.R_far (p := ⟨gb193, 1, none⟩) (Kd.R_types HO199.out BK193.out (by decide)) (fun _ hk => hk.2) (.slice Ao32 y197.length co32)) (fun _ hk => trivial)))⟩; have n3_ : Aside0 (w34.heap[gb183]? = some (.cells #[.slice (some ad192) l0_0.length c0_0, .slice A0_1 l0_1.length c0_1, .bool a0_2] 41 (0, 0))) := ⟨(by rw [hw]; exact (by (with_reducible repeat (first | refine blk_drewN ?_ _ | refine blk_drew ?_ | refine blk_alloc ?_ _)); refine blk_far ?_ NB183_193.out _; (with_reducible repeat (first | refine blk_drewN ?_ _ | refine blk_drew ?_ | refine blk_alloc ?_ _)); exact BK183.out))⟩; have n4_ : Aside0 (w34.heap[gb184]? = some (.cells #[.slice none 0 0, .slice none 0 0, .bool false] 41 (0, 0))) := ⟨(by rw [hw]; exact (by (with_reducible repeat (first | refine blk_drewN ?_ _ | refine blk_drew ?_ | refine blk_alloc ?_ _)); refine blk_far ?_ NB184_193.out _; (with_reducible repeat (first | refine blk_drewN ?_ _ | refine blk_drew ?_ | refine blk_alloc ?_ _)); exact BK184.out))⟩; have n5_ : Aside0 (w34.heap[gb191]? = some (.cells #[u192000, .slice Ao12 y188.length co12, .bool a0_2] 41 (0, 0))) := ⟨(by rw [hw]; exact (by (with_reducible repeat (first | refine blk_drewN ?_ _ | refine blk_drew ?_ | refine blk_alloc ?_ _)); refine blk_far ?_ NB191_193.out _; (with_reducible repeat (first | refine blk_drewN ?_ _ | refine blk_drew ?_ | refine blk_alloc ?_ _)); exact BK191.out))⟩; have n6_ : Aside0 (w34.heap[gb193]? = some (.cells #[.int .i64 ((rd_T47 l0_0 x4_1).f0), .slice Ao32 y197.length co32, .int .i64 ((rd_T47 l0_0 x4_1).f2), .int .i64 ((rd_T47 l0_0 x4_1).f3), .int .i64 ((rd_T47 l0_0 x4_1).f4)] 47 (0, 0))) := ⟨(by rw [hw]; exact (by (with_reducible repeat (first | refine blk_drewN ?_ _ | refine blk_drew ?_ | refine blk_alloc ?_ _)); refine blk_put (cs := #[.int .i64 ((rd_T47 l0_0 x4_1).f0), .slice A192_1 ((rd_T47 l0_0 x4_1).f1).length c192_1, .int .i64 ((rd_T47 l0_0 x4_1).f2), .int .i64 ((rd_T47 l0_0 x4_1).f3), .int .i64 ((rd_T47 l0_0 x4_1).f4)]) ?_ 1 _ rfl; (with_reducible repeat (first | refine blk_drewN ?_ _ | refine blk_drew ?_ | refine blk_alloc ?_ _)); exact BK193.out))⟩; have n7_ : Aside0 (Below w.heap.size w w34) := ⟨(by rw [hw]; exact (by repeat (first | (with_reducible first | exact HB.out | apply below_alloc | apply pw_below_drewN | apply below_drew1 | refine below_set ?_ GE183.out | refine below_set ?_ GE184.out | refine below_set ?_ GE191.out | refine below_set ?_ GE193.out) | exact HB.out)))⟩; clear hw; clear HO_192000; clear HO_192001; clear HO199; clear BK183; clear BK184; clear BK191; clear BK193; clear HB; have HO_192000 := n0_; have HO_192001 := n1_; have HO199 := n2_; have BK183 := n3_; have BK184 := n4_; have BK191 := n5_; have BK193 := n6_; have HB := n7_; clear n0_ n1_ n2_ n3_ n4_ n5_ n6_ n7_; have hnb35 := NB191_184.out; have hnc35 := NB184_191.out; have hcz36_0 : w34.cell? ⟨gb191, 0, none⟩ = some (u192000) := (blk_cell BK191.out 0).trans rfl; have hcz36_1 : w34.cell? ⟨gb191, 1, none⟩ = some (.slice Ao12 y188.length co12) := (blk_cell BK191.out 1).trans rfl; have hcz36_2 : w34.cell? ⟨gb191, 2, none⟩ = some (.bool a0_2) := (blk_cell BK191.out 2).trans rfl; have hfz36_0 := blk_frozen BK191.out 0; have hfz36_1 := blk_frozen BK191.out 1; have hfz36_2 := blk_frozen BK191.out 2; have hcz37_0 : w34.cell? ⟨gb193, 0, none⟩ = some (.int .i64 ((rd_T47 l0_0 x4_1).f0)) := (blk_cell BK193.out 0).trans rfl; have hcz37_1 : w34.cell? ⟨gb193, 1, none⟩ = some (.slice Ao32 y197.length co32) := (blk_cell BK193.out 1).trans rfl; have hcz37_2 : w34.cell? ⟨gb193, 2, none⟩ = some (.int .i64 ((rd_T47 l0_0 x4_1).f2)) := (blk_cell BK193.out 2).trans rfl; have hcz37_3 : w34.cell? ⟨gb193, 3, none⟩ = some (.int .i64 ((rd_T47 l0_0 x4_1).f3)) := (blk_cell BK193.out 3).trans rfl; have hcz37_4 : w34.cell? ⟨gb193, 4, none⟩ = some (.int .i64 ((rd_T47 l0_0 x4_1).f4)) := (blk_cell BK193.out 4).trans rfl; have hfz37_0 := blk_frozen BK193.out 0; have hfz37_1 := blk_frozen BK193.out 1; have hfz37_2 := blk_frozen BK193.out 2; have hfz37_3 := blk_frozen BK193.out 3; have hfz37_4 := blk_frozen BK193.out 4) | ((with_reducible refine gate_builtin (b := .append) (xs := #[.tmp 31, .tmp 33]) rfl ?_); at_builtin; refine Kd.S_append k47 (w0 := w) w.heap.size rfl (.tmp 31) (.tmp 33) 39 47 (.agg #[(.int .i64 0), (.slice none 0 0), (.int .i64 0), (.int .i64 0), (.int .i64 0)]) 56 rfl Tryd.underlying39 info47 rfl (by decide) (by omega) u192000 x192000_1 (⟨(rd_T47 l0_0 x4_1).f0, y197, (rd_T47 l0_0 x4_1).f2, (rd_T47 l0_0 x4_1).f3, (rd_T47 l0_0 x4_1).f4⟩ : S47) [.int .i64 ((rd_T47 l0_0 x4_1).f0), .slice Ao32 y197.length co32, .int .i64 ((rd_T47 l0_0 x4_1).f2), .int .i64 ((rd_T47 l0_0 x4_1).f3), .int .i64 ((rd_T47 l0_0 x4_1).f4)] (fun k_ => k_ ≠ gb193) (fun k_ => some k_ = (.slice Ao32 y197.length co32 : Value).ownBlock) rfl rfl ?aP (fun k_ hk_ => ((Kd.R_mono (ok' := fun k_ => ((fun k_ => k_ ≠ gb193)) k_ ∧ some k_ ≠ (u192000 : Value).ownBlock) (Kd.R_types (Kd.R_apart' (HO199.out) (Kd.S_typed HO_192000.out) (by decide)) BK193.out (by decide)) (fun k_ hk => ⟨hk.2, hk.1.2⟩))).1 k_ hk_.symm) ?aF ?aO ?aB ?aS ?aL ?_; (case aP => exact k47_mkM _ _ _ (⟨(rd_T47 l0_0 x4_1).f0, y197, (rd_T47 l0_0 x4_1).f2, (rd_T47 l0_0 x4_1).f3, (rd_T47 l0_0 x4_1).f4⟩ : S47) (Kd.R_mono (Kd.R_tight rfl (Kd.R_mono (ok' := fun k_ => ((fun k_ => k_ ≠ gb193)) k_ ∧ some k_ ≠ (u192000 : Value).ownBlock) (Kd.R_types (Kd.R_apart' (HO199.out) (Kd.S_typed HO_192000.out) (by decide)) BK193.out (by decide)) (fun k_ hk => ⟨hk.2, hk.1.2⟩))) (fun _ h_ => h_))); (case aB => exact (by repeat (first | (with_reducible first | exact HB.out | apply below_alloc | apply pw_below_drewN | apply below_drew1 | refine below_set ?_ GE183.out | refine below_set ?_ GE184.out | refine below_set ?_ GE191.out | refine below_set ?_ GE193.out) | exact HB.out))); (case aF => exact (fun k_ hk => Kd.freshB (g := gb193) (o := .cells #[.int .i64 ((rd_T47 l0_0 x4_1).f0), .slice Ao32 y197.length co32, .int .i64 ((rd_T47 l0_0 x4_1).f2), .int .i64 ((rd_T47 l0_0 x4_1).f3), .int .i64 ((rd_T47 l0_0 x4_1).f4)] 47 (0, 0)) (by (with_reducible repeat (first | refine blk_drewN ?_ _ | refine blk_drew ?_ | refine blk_alloc ?_ _)); exact BK193.out) k_ hk)); (case aO => exact (by (with_reducible repeat (first | apply Kd.S_alloc | apply Kd.S_drewN | apply Kd.S_drew)); exact Kd.S_mono HO_192000.out (fun k_ hk => ⟨hk.2, fun e_ => hk.1 e_⟩))); (case aS => exact (below_size (by repeat (first | (with_reducible first | exact HB.out | apply below_alloc | apply pw_below_drewN | apply below_drew1 | refine below_set ?_ GE183.out | refine below_set ?_ GE184.out | refine below_set ?_ GE191.out | refine below_set ?_ GE193.out) | exact HB.out)))); (case aL => have := LMc19.out; omega); intro v201 w38 ho hb hg hat; rw [← Ny200.out] at ho; have n0_ := Aside0.mk (Kd.R_over' (by (with_reducible repeat (first | apply Kd.R_alloc | apply Kd.R_drewN | apply Kd.R_drew)); exact HO_192001.out) (Kd.S_typed (by (with_reducible repeat (first | apply Kd.S_alloc | apply Kd.S_drewN | apply Kd.S_drew)); exact HO_192000.out)) (by decide) hg); have n1_ := Aside0.mk (blk_grown (g := gb183) (o := .cells #[.slice (some ad192) l0_0.length c0_0, .slice A0_1 l0_1.length c0_1, .bool a0_2] 41 (0, 0)) (by (with_reducible repeat (first | refine blk_drewN ?_ _ | refine blk_drew ?_ | refine blk_alloc ?_ _)); exact BK183.out) hg (Kd.S_ne HO_192000.out BK183.out (by decide))); have n2_ := Aside0.mk (blk_grown (g := gb184) (o := .cells #[.slice none 0 0, .slice none 0 0, .bool false] 41 (0, 0)) (by (with_reducible repeat (first | refine blk_drewN ?_ _ | refine blk_drew ?_ | refine blk_alloc ?_ _)); exact BK184.out) hg (Kd.S_ne HO_192000.out BK184.out (by decide))); have n3_ := Aside0.mk (blk_grown (g := gb191) (o := .cells #[u192000, .slice Ao12 y188.length co12, .bool a0_2] 41 (0, 0)) (by (with_reducible repeat (first | refine blk_drewN ?_ _ | refine blk_drew ?_ | refine blk_alloc ?_ _)); exact BK191.out) hg (Kd.S_ne HO_192000.out BK191.out (by decide))); have n4_ := Aside0.mk (blk_grown (g := gb193) (o := .cells #[.int .i64 ((rd_T47 l0_0 x4_1).f0), .slice Ao32 y197.length co32, .int .i64 ((rd_T47 l0_0 x4_1).f2), .int .i64 ((rd_T47 l0_0 x4_1).f3), .int .i64 ((rd_T47 l0_0 x4_1).f4)] 47 (0, 0)) (by (with_reducible repeat (first | refine blk_drewN ?_ _ | refine blk_drew ?_ | refine blk_alloc ?_ _)); exact BK193.out) hg (Kd.S_away HO_192000.out (fun _ hk => hk.2))); have n5_ := Aside0.mk (hb); have n6_ := Aside0.mk (ho); clear HO_192001; clear BK183; clear BK184; clear BK191; clear BK193; clear HB; clear HO_192000; clear HO199; have HO_192001 := n0_; have BK183 := n1_; have BK184 := n2_; have BK191 := n3_; have BK193 := n4_; have HB := n5_; have HO202 := n6_; clear n0_ n1_ n2_ n3_ n4_ n5_ n6_; clear ho hb hg hat; obtain ⟨Ao39, co39, eo39⟩ := Kd.S_slice HO202.out; subst eo39; have hcz40_0 : w38.cell? ⟨gb191, 0, none⟩ = some (u192000) := (blk_cell BK191.out 0).trans rfl; have hcz40_1 : w38.cell? ⟨gb191, 1, none⟩ = some (.slice Ao12 y188.length co12) := (blk_cell BK191.out 1).trans rfl; have hcz40_2 : w38.cell? ⟨gb191, 2, none⟩ = some (.bool a0_2) := (blk_cell BK191.out 2).trans rfl; have hfz40_0 := blk_frozen BK191.out 0; have hfz40_1 := blk_frozen BK191.out 1; have hfz40_2 := blk_frozen BK191.out 2))
                go_roundg k1
                case measure => have := HK1.out; omega
                case rel => exact ⟨(wrap64 (x4_1 + 1)), (y200), (.slice Ao39 y200.length co39), (by first | rfl | (simp; done) | (simp [*]; done)), H', ⟨by have := HK1.out; omega⟩, ⟨by (with_reducible repeat (first | apply Kd.S_alloc | apply Kd.S_drewN | apply Kd.S_drew)); exact Kd.S_mono (Kd.S_far (p := ⟨gb191, 0, none⟩) (Kd.S_types HO202.out BK191.out (by decide)) (fun _ hk => hk.2) (.slice Ao39 y200.length co39)) (fun _ hk => trivial)⟩, ⟨by (with_reducible repeat (first | apply Kd.R_alloc | apply Kd.R_drewN | apply Kd.R_drew)); exact Kd.R_mono (Kd.R_far (p := ⟨gb191, 0, none⟩) (Kd.R_types HO_192001.out BK191.out (by decide)) (fun _ hk => hk.2) (.slice Ao39 y200.length co39)) (fun _ hk => trivial)⟩, ⟨by (with_reducible repeat (first | refine blk_drewN ?_ _ | refine blk_drew ?_ | refine blk_alloc ?_ _)); refine blk_far ?_ NB183_191.out _; (with_reducible repeat (first | refine blk_drewN ?_ _ | refine blk_drew ?_ | refine blk_alloc ?_ _)); exact BK183.out⟩, ⟨by (with_reducible repeat (first | refine blk_drewN ?_ _ | refine blk_drew ?_ | refine blk_alloc ?_ _)); refine blk_far ?_ NB184_191.out _; (with_reducible repeat (first | refine blk_drewN ?_ _ | refine blk_drew ?_ | refine blk_alloc ?_ _)); exact BK184.out⟩, ⟨by (with_reducible repeat (first | refine blk_drewN ?_ _ | refine blk_drew ?_ | refine blk_alloc ?_ _)); refine blk_put (cs := #[u192000, .slice Ao12 y188.length co12, .bool a0_2]) ?_ 0 _ rfl; (with_reducible repeat (first | refine blk_drewN ?_ _ | refine blk_drew ?_ | refine blk_alloc ?_ _)); exact BK191.out⟩, ⟨by repeat (first | (with_reducible first | exact HB.out | apply below_alloc | apply pw_below_drewN | apply below_drew1 | refine below_set ?_ GE183.out | refine below_set ?_ GE184.out | refine below_set ?_ GE191.out | refine below_set ?_ GE193.out) | exact HB.out)⟩⟩
              · rw [if_neg c19] at H
                exact absurd H (by simp)
            · rw [if_neg c18] at H
              exact absurd H (by simp)
          · rw [if_neg c17] at H
            exact absurd H (by simp)
        · rw [if_neg c16] at H
          have c16b0 : decide (x4_1 < (l0_0.length : Int)) = false := decide_eq_false c16
          clear c16
          simp only [Option.some.injEq, Prod.mk.injEq] at H
          obtain ⟨rfl, rfl, rfl⟩ := H
          have hnb41 := NB183_184.out
          have hnc41 := NB184_183.out
          have hnb42 := NB183_191.out
          have hnc42 := NB191_183.out
          have hcz43_0 : wr.cell? ⟨gb183, 0, none⟩ = some (.slice A0_0 l0_0.length c0_0) := (blk_cell BK183.out 0).trans rfl
          have hcz43_1 : wr.cell? ⟨gb183, 1, none⟩ = some (.slice A0_1 l0_1.length c0_1) := (blk_cell BK183.out 1).trans rfl
          have hcz43_2 : wr.cell? ⟨gb183, 2, none⟩ = some (.bool a0_2) := (blk_cell BK183.out 2).trans rfl
          have hfz43_0 := blk_frozen BK183.out 0
          have hfz43_1 := blk_frozen BK183.out 1
          have hfz43_2 := blk_frozen BK183.out 2
          have hnb44 := NB191_184.out
          have hnc44 := NB184_191.out
          have hcz45_0 : wr.cell? ⟨gb191, 0, none⟩ = some (u192000) := (blk_cell BK191.out 0).trans rfl
          have hcz45_1 : wr.cell? ⟨gb191, 1, none⟩ = some (.slice Ao12 y188.length co12) := (blk_cell BK191.out 1).trans rfl
          have hcz45_2 : wr.cell? ⟨gb191, 2, none⟩ = some (.bool a0_2) := (blk_cell BK191.out 2).trans rfl
          have hfz45_0 := blk_frozen BK191.out 0
          have hfz45_1 := blk_frozen BK191.out 1
          have hfz45_2 := blk_frozen BK191.out 2
          obtain ⟨Ao46, co46, eo46⟩ := Kd.S_slice HO_192000.out
          subst eo46
          have hcz47_0 : wr.cell? ⟨gb184, 0, none⟩ = some (.slice none 0 0) := (blk_cell BK184.out 0).trans rfl
          have hcz47_1 : wr.cell? ⟨gb184, 1, none⟩ = some (.slice none 0 0) := (blk_cell BK184.out 1).trans rfl
          have hcz47_2 : wr.cell? ⟨gb184, 2, none⟩ = some (.bool false) := (blk_cell BK184.out 2).trans rfl
          have hfz47_0 := blk_frozen BK184.out 0
          have hfz47_1 := blk_frozen BK184.out 1
          have hfz47_2 := blk_frozen BK184.out 2
          go_wp2
          refine bodyPost_ret (results_cell_row rfl _ _ gb184 41 #[.slice Ao46 x192000_1.length co46, .slice Ao12 y188.length co12, .bool a0_2] (0, 0) _ rfl (by (with_reducible repeat (first | refine blk_drewN ?_ _ | refine blk_drew ?_ | refine blk_alloc ?_ _)); refine blk_put (cs := #[.slice Ao46 x192000_1.length co46, .slice Ao12 y188.length co12, .bool false]) ?_ 2 _ rfl; (with_reducible repeat (first | refine blk_drewN ?_ _ | refine blk_drew ?_ | refine blk_alloc ?_ _)); refine blk_put (cs := #[.slice Ao46 x192000_1.length co46, .slice none 0 0, .bool false]) ?_ 1 _ rfl; (with_reducible repeat (first | refine blk_drewN ?_ _ | refine blk_drew ?_ | refine blk_alloc ?_ _)); refine blk_put (cs := #[.slice none 0 0, .slice none 0 0, .bool false]) ?_ 0 _ rfl; (with_reducible repeat (first | refine blk_drewN ?_ _ | refine blk_drew ?_ | refine blk_alloc ?_ _)); exact BK184.out) Tryd.underlying41 rfl (by kernel_rfl)) rfl ?_
          exact ⟨_, _, by first | rfl | (simp [errW_none, errW_some] <;> rfl) | (simp [*, errW_none, errW_some] <;> rfl), by (with_reducible repeat (first | apply Kd.S_alloc | apply Kd.S_drewN | apply Kd.S_drew)); exact Kd.S_mono (Kd.S_far (p := ⟨gb184, 2, none⟩) (Kd.S_far (p := ⟨gb184, 1, none⟩) (Kd.S_far (p := ⟨gb184, 0, none⟩) (Kd.S_types HO_192000.out BK184.out (by decide)) (fun _ hk => hk.2) (.slice Ao46 x192000_1.length co46)) (fun _ hk => hk.2) (.slice Ao12 y188.length co12)) (fun _ hk => hk.2) (.bool a0_2)) (fun _ hk => trivial), by (with_reducible repeat (first | apply Kd.R_alloc | apply Kd.R_drewN | apply Kd.R_drew)); exact Kd.R_mono (Kd.R_far (p := ⟨gb184, 2, none⟩) (Kd.R_far (p := ⟨gb184, 1, none⟩) (Kd.R_far (p := ⟨gb184, 0, none⟩) (Kd.R_types HO_192001.out BK184.out (by decide)) (fun _ hk => hk.2) (.slice Ao46 x192000_1.length co46)) (fun _ hk => hk.2) (.slice Ao12 y188.length co12)) (fun _ hk => hk.2) (.bool a0_2)) (fun _ hk => trivial), by repeat (first | (with_reducible first | exact HB.out | apply below_alloc | apply pw_below_drewN | apply below_drew1 | refine below_set ?_ GE183.out | refine below_set ?_ GE184.out | refine below_set ?_ GE191.out) | exact HB.out)⟩
  · rw [if_neg c2] at H
    exact absurd H (by simp)

-- NOT PRINTED: function 6 (thistlelaw12_ProgChecks)

end Go.Proofs.YtmbboianghbjkaaDoor.PProgChecks
