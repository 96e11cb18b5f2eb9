import Derived.Test.YtmbboianghbjkaaDoorPLawProgChecks
namespace Go.Proofs.YtmbboianghbjkaaDoor
namespace PProgChecks
open Go.RowKit Go.Proofs.YtmbboianghbjkaaDoorW.PrintWords Go.Proofs.YtmbboianghbjkaaDoorW.PrintLast Go.Proofs.YtmbboianghbjkaaDoorW.PrintMore
set_option linter.unusedVariables false
set_option linter.unusedSimpArgs false

/-! sets -/
theorem block_k (k : Nat) (u : Int) (h0 : i32ok u) : thistleref02_block.f (k + 4) u = some (bandOf u) := by
  unfold thistleref02_block.f thistleref02_blocks.f
  simp only [Option.bind_some]
  unfold i32ok at h0
  have hw : wrap64 u = u := wr64 _ (by omega) (by omega)
  have l3 : (([(⟨0, 55295⟩ : S191), (⟨57344, 1114111⟩ : S191), (⟨1114240, 1114367⟩ : S191)] : List S191).length : Int) = 3 := rfl
  have r0 : rd_T191 [(⟨0, 55295⟩ : S191), (⟨57344, 1114111⟩ : S191), (⟨1114240, 1114367⟩ : S191)] 0 = ⟨0, 55295⟩ := rfl
  have r1 : rd_T191 [(⟨0, 55295⟩ : S191), (⟨57344, 1114111⟩ : S191), (⟨1114240, 1114367⟩ : S191)] 1 = ⟨57344, 1114111⟩ := rfl
  have r2 : rd_T191 [(⟨0, 55295⟩ : S191), (⟨57344, 1114111⟩ : S191), (⟨1114240, 1114367⟩ : S191)] 2 = ⟨1114240, 1114367⟩ := rfl
  have w1 : wrap64 (0 + 1) = 1 := (wr64 _ (by omega) (by omega)).trans rfl
  have w2 : wrap64 (1 + 1) = 2 := (wr64 _ (by omega) (by omega)).trans rfl
  have w3 : wrap64 (2 + 1) = 3 := (wr64 _ (by omega) (by omega)).trans rfl
  simp only [thistleref02_block.l0, l3, r0, r1, r2, w1, w2, w3, hw]
  unfold bandOf inBand bandLo bandHi
  by_cases a : 0 ≤ u ∧ u ≤ 55295
  · simp [a]
  by_cases b : 57344 ≤ u ∧ u ≤ 1114111
  · have : ¬ u ≤ 55295 := by omega
    simp [b, this]
  by_cases c : 1114240 ≤ u ∧ u ≤ 1114367
  · have h1 : ¬ u ≤ 55295 := by omega
    have h2 : ¬ u ≤ 1114111 := by omega
    simp [c, h1, h2]
  · simp
    repeat' split
    all_goals first | rfl | (exfalso; omega)
theorem block_ev (u : Int) (h0 : i32ok u) : Ev (fun k => thistleref02_block.f k u) (bandOf u) := ⟨4, fun k hk => by
  obtain ⟨j, rfl⟩ : ∃ j, k = j + 4 := ⟨k - 4, by omega⟩
  exact block_k j u h0⟩
theorem rd_at (l : List S96) (i : Nat) (h : i < l.length) : rd_T96 l (i : Int) = l[i] := by
  unfold rd_T96
  simp [List.getD_eq_getElem?_getD, List.getElem?_eq_getElem h]
theorem prs_at (l : List S96) (i : Nat) (h : i < l.length) : (prs l).getD i (0, 0) = (l[i].f0, l[i].f1) := by
  simp [prs, List.getD_eq_getElem?_getD, List.getElem?_map, List.getElem?_eq_getElem h]
theorem bandOf_in {u : Int} (h : ¬ bandOf u < 0) : 0 ≤ u ∧ u ≤ 1114367 := by
  unfold bandOf inBand bandLo bandHi at h
  simp at h
  repeat' split at h
  all_goals omega
theorem rset_ev (l : List S96) (hl : l.length ≤ 9223372036854775807) (hr : ∀ x ∈ l, rngOk x) : Ev (fun k => thistleref02_Check.f k l) (errNo (chkAll (prs l))) := by
  unfold thistleref02_Check.f
  have hpl : (prs l).length = l.length := by simp [prs]
  have go : ∀ d i : Nat, l.length - i = d → i ≤ l.length → (∀ j, j < i → chkAt (prs l) j = true) → Ev (fun k => thistleref02_Check.l0 k l (i : Int)) (errNo (chkAll (prs l))) := by
    intro d
    induction d with
    | zero =>
      intro i hd hi hall
      refine Ev.step (f := fun _ => some 0) (fun k => by simp only [thistleref02_Check.l0]; rw [if_neg (by omega)]) ?_
      rw [chk_good (fun j hj => hall j (by omega))]
      exact Ev.now _
    | succ d ih =>
      intro i hd hi hall
      have hi' : i < l.length := by omega
      obtain ⟨hr0, hr1⟩ := hr _ (List.getElem_mem hi')
      have b0 := block_ev _ hr0
      have b1 := block_ev _ hr1
      have hat : chkAt (prs l) i = chkV i l[i].f0 l[i].f1 ((prs l).getD (i - 1) (0, 0)).2 := by unfold chkAt; rw [prs_at l i hi']
      have bad : chkAt (prs l) i = false → errNo (chkAll (prs l)) = 1 := fun h => by rw [chk_bad (by omega) h]; rfl
      have jbad : chkAt (prs l) i = false → Ev (fun k => thistleref02_Check.j1 k l (i : Int) true) (errNo (chkAll (prs l))) := fun h => by
        rw [bad h]
        refine Ev.step (f := fun _ => some 1) (fun k => by simp only [thistleref02_Check.j1]; rfl) (Ev.now _)
      refine Ev.step (f := fun k => (thistleref02_block.f k l[i].f0).bind fun t => if t < 0 then thistleref02_Check.j1 k l (i : Int) true else (thistleref02_block.f k l[i].f1).bind fun t' => if t = t' then thistleref02_Check.j1 k l (i : Int) (decide (l[i].f0 > l[i].f1)) else thistleref02_Check.j1 k l (i : Int) true) (fun k => by simp only [thistleref02_Check.l0]; rw [if_pos (by omega), if_pos (by omega), rd_at l i hi']) ?_
      refine Ev.bind b0 ?_
      unfold chkV at hat
      by_cases c0 : bandOf l[i].f0 < 0
      · simp only [if_pos c0]
        exact jbad (by rw [hat, decide_eq_true c0]; rfl)
      simp only [if_neg c0]
      refine Ev.bind b1 ?_
      by_cases c1 : bandOf l[i].f0 = bandOf l[i].f1
      · simp only [if_pos c1]
        by_cases c2 : l[i].f0 > l[i].f1
        · simp only [decide_eq_true c2]
          refine jbad ?_
          rw [hat, decide_eq_false (show ¬ l[i].f0 ≤ l[i].f1 by omega)]
          simp
        · simp only [decide_eq_false c2]
          obtain ⟨i0, i1⟩ := bandOf_in c0
          by_cases z : i = 0
          · subst z
            refine Ev.step (fun k => ?_) (ih 1 (by omega) (by omega) (fun j hj => by
              obtain rfl : j = 0 := by omega
              rw [hat, decide_eq_false c0, decide_eq_true c1, decide_eq_true (show l[0].f0 ≤ l[0].f1 by omega)]
              rfl))
            simp only [thistleref02_Check.j1]
            rw [if_neg (by simp), if_neg (by omega), up1 0 _ hi' hl]
          · have hi1 : i - 1 < l.length := by omega
            obtain ⟨_, hp1⟩ := hr _ (List.getElem_mem hi1)
            unfold i32ok at hp1
            have hprev := hall (i - 1) (by omega)
            have e1 : ((prs l).getD (i - 1) (0, 0)).2 = l[i - 1].f1 := by rw [prs_at l _ hi1]
            have hp2 : l[i - 1].f1 ≤ 1114367 := by
              unfold chkAt chkV at hprev
              rw [prs_at l _ hi1] at hprev
              simp only [Bool.and_eq_true, Bool.not_eq_true', decide_eq_false_iff_not, decide_eq_true_eq] at hprev
              exact (bandOf_in (by rw [← hprev.1.1.2]; exact hprev.1.1.1)).2
            rw [e1] at hat
            have ew : wrap64 ((i : Int) - 1) = ((i - 1 : Nat) : Int) := by rw [wr64 _ (by omega) (by omega)]; omega
            have e3 : wrap32 (l[i - 1].f1 + 1) = l[i - 1].f1 + 1 := wr32 _ (by omega) (by omega)
            have step : ∀ k, thistleref02_Check.j1 (k + 1) l (i : Int) false = if l[i].f0 ≤ l[i - 1].f1 + 1 then some 1 else thistleref02_Check.l0 k l ((i + 1 : Nat) : Int) := fun k => by
              simp only [thistleref02_Check.j1]
              rw [if_neg (by simp), if_pos (by omega), if_pos (by omega), if_pos (by omega), ew, if_pos (by omega), if_pos (by omega), rd_at l i hi', rd_at l (i - 1) hi1, wr64 l[i].f0 (by omega) (by omega), wr64 l[i - 1].f1 (by omega) (by omega), wr64 _ (by omega) (by omega), up1 i _ hi' hl]
            by_cases c3 : l[i].f0 ≤ l[i - 1].f1 + 1
            · refine Ev.step (f := fun _ => some 1) (fun k => by rw [step, if_pos c3]) ?_
              rw [bad (by
                rw [hat, e3]
                by_cases c4 : l[i].f0 ≤ l[i - 1].f1
                · simp [c4, z]
                · have : l[i].f0 = l[i - 1].f1 + 1 := by omega
                  simp [this, z])]
              exact Ev.now _
            · refine Ev.step (fun k => by rw [step, if_neg c3]) (ih (i + 1) (by omega) (by omega) fun j hj => ?_)
              by_cases e : j = i
              · subst e
                rw [hat, e3, decide_eq_false c0, decide_eq_true c1, decide_eq_true (show l[j].f0 ≤ l[j].f1 by omega), decide_eq_false z, decide_eq_false (show ¬ l[j].f0 ≤ l[j - 1].f1 by omega), decide_eq_false (show ¬ l[j].f0 = l[j - 1].f1 + 1 by omega)]
                rfl
              · exact hall j (by omega)
      · simp only [if_neg c1]
        exact jbad (by rw [hat, decide_eq_false c1]; simp)
  exact go l.length 0 rfl (by omega) (by omega)
theorem rfits_ev (l : List S96) (raw : Bool) (hl : l.length ≤ 9223372036854775807) (hr : ∀ x ∈ l, rngOk x) : Ev (fun k => thistleref12_Fits.f k l raw) (setOk l raw) := by
  unfold thistleref12_Fits.f setOk
  refine Ev.bind (rset_ev l hl hr) ?_
  by_cases c : chkAll (prs l) = true
  · simp only [c, errNo, if_true, Bool.true_and]
    cases raw
    · simp only [Bool.false_eq_true, if_false, Bool.not_false, Bool.true_or]
      exact Ev.now _
    · simp only [if_true, Bool.not_true, Bool.false_or]
      by_cases z : l.length = 0
      · simp only [z, if_pos (show ((0 : Nat) : Int) = 0 from rfl), decide_true, Bool.true_or]
        exact Ev.now _
      · have ew : wrap64 ((l.length : Int) - 1) = (l.length : Int) - 1 := wr64 _ (by omega) (by omega)
        simp only [ew, if_neg (show ¬ (l.length : Int) = 0 by omega), if_pos (show 0 ≤ (l.length : Int) - 1 by omega), if_pos (show (l.length : Int) - 1 < l.length by omega), decide_eq_false z, Bool.false_or]
        exact Ev.now _
  · simp only [show chkAll (prs l) = false by simpa using c, errNo, Bool.false_and]
    exact Ev.now _

/-! instructions -/
theorem within_f (a b c : Int) : thistleref12_within.f a b c = some (decide (b ≤ a) && decide (a ≤ c)) := by
  unfold thistleref12_within.f
  by_cases h : b ≤ a
  · rw [if_pos h, decide_eq_true h]; rfl
  · rw [if_neg h, decide_eq_false h]; rfl
theorem in_range (x n : Int) : (decide (0 ≤ x) && decide (x ≤ n - 1)) = (decide (0 ≤ x) && decide (x < n)) := by
  rw [Bool.eq_iff_iff]
  simp
  omega
theorem plc_in {h b x n : Int} (hb : ¬ bits .and .i64 h b = 0) : plcV h b x n = (decide (0 ≤ x) && decide (x < n)) := by unfold plcV; rw [if_neg hb]
theorem plc_out {h b x n : Int} (hb : bits .and .i64 h b = 0) : plcV h b x n = decide (x = 0) := by unfold plcV; rw [if_pos hb]
theorem ne_bool (x : Int) : (x != 0) = !(decide (x = 0)) := by rw [Bool.eq_iff_iff]; simp
theorem eq_bool (x : Int) : (x == 0) = decide (x = 0) := by rw [Bool.eq_iff_iff]; simp
theorem pos_bool (n : Nat) : decide (((n : Int)) > 0) = !(decide (n = 0)) := by rw [Bool.eq_iff_iff]; simp; omega
theorem and_false_iff {a : Bool} : (a && false) = false := by cases a <;> rfl
/-- The reference's instruction, by the kind of it. -/
theorem inst_ev (op : Int) (l : List S96) (x y n : Int) (count : Nat) (groups : Nat) (raw : Bool) (hc : count ≤ 9223372036854775807) (hgr : groups ≤ 40) (hl : l.length ≤ 9223372036854775807) (hr : ∀ x ∈ l, rngOk x) :
    Ev (fun k => thistleref12_inst.f k op l x y n count groups raw) (fitsV op l x y n count groups raw) := by
  have hf := rfits_ev l raw hl hr
  have ew : wrap64 ((count : Int) - 1) = (count : Int) - 1 := wr64 _ (by omega) (by omega)
  have eg : wrap64 (wrap64 (2 * (groups : Int)) + 1) = 2 * (groups : Int) + 1 := by rw [wr64 (2 * (groups : Int)) (by omega) (by omega), wr64 _ (by omega) (by omega)]
  -- from j0 on, the looks' bound being b
  have main : ∀ b : Int, b = (if raw = true then 8 else 6) → Ev (fun k => thistleref12_inst.j0 k count groups raw b op l x y n) (fitsV op l x y n count groups raw) := by
    intro b hb
    have jj3 : ¬ (op = 1 ∨ op = 2 ∨ op = 3 ∨ op = 4) → l.length = 0 → y = 0 → Ev (fun k => if op = 5 then thistleref12_inst.j3 k count op (op == 5) op l x y n else thistleref12_inst.j3 k count op (op == 6) op l x y n) (fitsV op l x y n count groups raw) := by
      intro hop hl0 hy
      by_cases h56 : op = 5 ∨ op = 6
      · have e5 : fitsV op l x y n count groups raw = (decide (0 ≤ x) && decide (x < count) && (decide (0 ≤ n) && decide (n ≤ 63))) := by
          unfold fitsV
          rw [show hasV op = 5 by unfold hasV; rw [if_neg (by omega), if_neg (by omega), if_pos (by omega)], plc_in (by decide), plc_out (by decide), if_neg (by decide), if_pos (by decide)]
          unfold numR
          rw [if_neg (by omega), if_neg (by omega), decide_eq_true hl0, decide_eq_true hy]
          simp
        have : Ev (fun k => thistleref12_inst.j3 k count op true op l x y n) (fitsV op l x y n count groups raw) := by
          rw [e5]
          refine Ev.step (f := fun _ => some _) (fun k => ?_) (Ev.now _)
          simp only [thistleref12_inst.j3, within_f, Option.bind_some, ew, in_range]
          rw [if_pos trivial]
          cases (decide (0 ≤ x) && decide (x < (count : Int))) <;> simp
        rcases h56 with h | h
        · subst h
          simpa using this
        · subst h
          simpa using this
      · have e5 : (op == 5) = false := by simp; omega
        have e6 : (op == 6) = false := by simp; omega
        simp only [if_neg (show ¬ op = 5 by omega), e6]
        by_cases h9 : op = 9
        · subst h9
          have e9 : fitsV 9 l x y n count groups raw = (decide (0 ≤ x) && decide (x < count) && decide (n = 0)) := by
            unfold fitsV
            rw [show hasV 9 = 1 from rfl, plc_in (by decide), plc_out (by decide), if_pos (by decide), if_pos (by decide), decide_eq_true hl0, decide_eq_true hy]
            simp
          rw [e9]
          refine Ev.step (f := fun _ => some _) (fun k => ?_) (Ev.now _)
          simp only [thistleref12_inst.j3, within_f, Option.bind_some, ew, in_range, eq_bool]
          rw [if_neg (by simp), if_pos trivial]
          cases (decide (0 ≤ x) && decide (x < (count : Int))) <;> simp
        · by_cases h78 : op = 7 ∨ op = 8
          · have e7 : fitsV op l x y n count groups raw = (decide (x = 0) && decide (n = 0)) := by
              unfold fitsV
              rw [show hasV op = 0 by unfold hasV; rw [if_neg (by omega), if_neg (by omega), if_neg (by omega), if_neg (by omega), if_pos (by omega)], plc_out (by decide), plc_out (by decide), if_pos (by decide), if_pos (by decide), decide_eq_true hl0, decide_eq_true hy]
              simp
            rw [e7]
            refine Ev.step (f := fun _ => some _) (fun k => ?_) (Ev.now _)
            simp only [thistleref12_inst.j3, eq_bool]
            rw [if_neg (by simp), if_neg h9]
            rcases h78 with h | h
            · rw [if_pos h]
              by_cases hx : x = 0 <;> simp [hx]
            · rw [if_neg (by omega), if_pos h]
              by_cases hx : x = 0 <;> simp [hx]
          · have eb : fitsV op l x y n count groups raw = false := by
              unfold fitsV
              rw [show hasV op = -1 by unfold hasV; rw [if_neg (by omega), if_neg (by omega), if_neg (by omega), if_neg (by omega), if_neg (by omega)]]
              rfl
            rw [eb]
            refine Ev.step (f := fun _ => some false) (fun k => ?_) (Ev.now _)
            simp only [thistleref12_inst.j3]
            rw [if_neg (by simp), if_neg h9, if_neg (by omega), if_neg (by omega)]
    -- behind the look at Y
    have jj2 : (op ≠ 1 → l.length = 0) → (op ≠ 2 → y = 0) → Ev (fun k => thistleref12_inst.j2 k count groups raw b false op l x y n) (fitsV op l x y n count groups raw) := by
      intro hset hy
      by_cases h1 : op = 1
      · subst h1
        have e1 : fitsV 1 l x y n count groups raw = (decide (0 ≤ x) && decide (x < count) && (decide (n = 0) && setOk l raw)) := by
          unfold fitsV
          rw [show hasV 1 = 9 from rfl, plc_in (by decide), plc_out (by decide), if_pos (by decide), if_neg (by decide), decide_eq_true (hy (by omega))]
          simp [Bool.and_assoc]
        rw [e1]
        refine Ev.step (f := fun k => (some (decide (0 ≤ x) && decide (x < (count : Int)))).bind fun t => if t = true then (if n = 0 then ((thistleref12_Fits.f k l raw).bind fun t' => some t') else some false) else some false) (fun k => by simp only [thistleref12_inst.j2, within_f, ew, in_range]; rw [if_neg (by simp), if_pos trivial]) ?_
        simp only [Option.bind_some]
        by_cases hx : (decide (0 ≤ x) && decide (x < (count : Int))) = true
        · simp only [hx, if_true, Bool.true_and]
          by_cases hn : n = 0
          · simp only [if_pos hn, decide_eq_true hn, Bool.true_and]
            exact Ev.bind hf (Ev.now _)
          · simp only [if_neg hn, decide_eq_false hn, Bool.false_and]
            exact Ev.now _
        · simp only [show (decide (0 ≤ x) && decide (x < (count : Int))) = false by simpa using hx, Bool.false_eq_true, if_false, Bool.false_and]
          exact Ev.now _
      have hl0 := hset h1
      by_cases h2 : op = 2
      · subst h2
        have e2 : fitsV 2 l x y n count groups raw = (decide (0 ≤ x) && decide (x < count) && (decide (0 ≤ y) && decide (y < count)) && decide (n = 0)) := by
          unfold fitsV
          rw [show hasV 2 = 3 from rfl, plc_in (by decide), plc_in (by decide), if_pos (by decide), if_pos (by decide), decide_eq_true hl0]
          simp
        rw [e2]
        refine Ev.step (f := fun _ => some _) (fun k => ?_) (Ev.now _)
        simp only [thistleref12_inst.j2, within_f, Option.bind_some, ew, in_range, eq_bool]
        rw [if_neg (by simp), if_neg (by omega), if_pos trivial]
        cases (decide (0 ≤ x) && decide (x < (count : Int))) <;> cases (decide (0 ≤ y) && decide (y < (count : Int))) <;> simp
      have hy0 := hy h2
      by_cases h3 : op = 3
      · subst h3
        have e3 : fitsV 3 l x y n count groups raw = (decide (0 ≤ x) && decide (x < count) && (decide (2 ≤ n) && decide (n ≤ 2 * (groups : Int) + 1))) := by
          unfold fitsV
          rw [show hasV 3 = 5 from rfl, plc_in (by decide), plc_out (by decide), if_neg (by decide), if_pos (by decide), decide_eq_true hl0, decide_eq_true hy0]
          unfold numR
          rw [if_pos rfl, eg]
          simp
        rw [e3]
        refine Ev.step (f := fun _ => some _) (fun k => ?_) (Ev.now _)
        simp only [thistleref12_inst.j2, within_f, Option.bind_some, ew, in_range, eg]
        rw [if_neg (by simp), if_neg (by omega), if_neg (by omega), if_pos trivial]
        cases (decide (0 ≤ x) && decide (x < (count : Int))) <;> simp
      by_cases h4 : op = 4
      · subst h4
        have e4 : fitsV 4 l x y n count groups raw = (decide (0 ≤ x) && decide (x < count) && (decide (1 ≤ n) && decide (n ≤ b))) := by
          unfold fitsV
          rw [show hasV 4 = 5 from rfl, plc_in (by decide), plc_out (by decide), if_neg (by decide), if_pos (by decide), decide_eq_true hl0, decide_eq_true hy0]
          unfold numR
          rw [if_neg (by omega), if_pos rfl, hb]
          cases raw
          · simp
          · rw [Bool.eq_iff_iff]
            simp
            try omega
        rw [e4]
        refine Ev.step (f := fun _ => some _) (fun k => ?_) (Ev.now _)
        simp only [thistleref12_inst.j2, within_f, Option.bind_some, ew, in_range]
        rw [if_neg (by simp), if_neg (by omega), if_neg (by omega), if_neg (by omega), if_pos trivial]
        cases (decide (0 ≤ x) && decide (x < (count : Int))) <;> simp
      refine Ev.step (fun k => ?_) (jj3 (by omega) hl0 hy0)
      simp only [thistleref12_inst.j2]
      rw [if_neg (by simp), if_neg h1, if_neg h2, if_neg h3, if_neg h4]
    have f0 : ∀ h1 : op ≠ 1 ∧ ¬ l.length = 0 ∨ op ≠ 2 ∧ ¬ y = 0, fitsV op l x y n count groups raw = false := by
      intro h
      unfold fitsV
      by_cases hh : hasV op < 0
      · rw [decide_eq_false (by omega)]; rfl
      rcases h with ⟨h1, h0⟩ | ⟨h2, h0⟩
      · have : bits .and .i64 (hasV op) 8 = 0 := by
          unfold hasV at *
          rw [if_neg h1] at *
          repeat' split at *
          all_goals first | decide | (exfalso; omega)
        rw [if_pos this, decide_eq_false h0, and_false_iff]
      · have : bits .and .i64 (hasV op) 2 = 0 := by
          unfold hasV at *
          rw [if_neg h2] at *
          repeat' split at *
          all_goals first | decide | (exfalso; omega)
        rw [plc_out (h := hasV op) (b := 2) this, decide_eq_false h0, and_false_iff]
        simp
    have jj1 : (op ≠ 1 → l.length = 0) → Ev (fun k => thistleref12_inst.j1 k count groups raw b false op l x y n) (fitsV op l x y n count groups raw) := by
      intro hset
      by_cases h2 : op = 2
      · refine Ev.step (fun k => ?_) (jj2 hset (fun h => absurd h2 h))
        simp only [thistleref12_inst.j1]
        rw [if_neg (by simp), if_pos h2]
      · by_cases hy : y = 0
        · refine Ev.step (fun k => ?_) (jj2 hset (fun _ => hy))
          simp only [thistleref12_inst.j1, ne_bool, decide_eq_true hy]
          rw [if_neg (by simp), if_neg h2]
          rfl
        · rw [f0 (.inr ⟨h2, hy⟩)]
          refine Ev.step (f := fun k => thistleref12_inst.j2 k count groups raw b true op l x y n) (fun k => ?_) (Ev.step (f := fun _ => some false) (fun k => ?_) (Ev.now _))
          · simp only [thistleref12_inst.j1, ne_bool, decide_eq_false hy]
            rw [if_neg (by simp), if_neg h2]
            rfl
          · simp only [thistleref12_inst.j2]
            rfl
    by_cases h1 : op = 1
    · refine Ev.step (fun k => ?_) (jj1 (fun h => absurd h1 h))
      simp only [thistleref12_inst.j0]
      rw [if_pos h1]
    · by_cases hl0 : l.length = 0
      · refine Ev.step (fun k => ?_) (jj1 (fun _ => hl0))
        simp only [thistleref12_inst.j0, pos_bool, decide_eq_true hl0]
        rw [if_neg h1]
        rfl
      · rw [f0 (.inl ⟨h1, hl0⟩)]
        refine Ev.step (f := fun k => thistleref12_inst.j1 k count groups raw b true op l x y n) (fun k => ?_) (Ev.step (f := fun _ => some false) (fun k => ?_) (Ev.now _))
        · simp only [thistleref12_inst.j0, pos_bool, decide_eq_false hl0]
          rw [if_neg h1]
          rfl
        · simp only [thistleref12_inst.j1]
          rfl
  unfold thistleref12_inst.f
  cases raw
  · simp only [Bool.false_eq_true, if_false] at main ⊢
    exact main 6 rfl
  · simp only [if_true] at main ⊢
    exact main 8 rfl

theorem rdI_at (l : List S47) (i : Nat) (h : i < l.length) : rd_T47 l (i : Int) = l[i] := by
  unfold rd_T47
  simp [List.getD_eq_getElem?_getD, List.getElem?_eq_getElem h]
theorem rcheck_ev (l : List S47) (names : List ByteArray) (raw : Bool) (hl : l.length ≤ 9223372036854775807) (hn : names.length ≤ 9223372036854775807) (hz : ∀ x ∈ names, x.size ≤ 140737488351232) (hs : ∀ x ∈ l, x.f1.length ≤ 9223372036854775807 ∧ ∀ r ∈ x.f1, rngOk r) :
    Ev (fun k => thistleref12_Check.f k l names raw) (errNo (progOk l names raw)) := by
  unfold thistleref12_Check.f
  have bad : progOk l names raw = false → Ev (fun k => thistleref12_Check.j0 k (l.length : Int) true l names raw) (errNo (progOk l names raw)) := fun h => by
    rw [h]
    exact Ev.step (f := fun _ => some 1) (fun k => by simp only [thistleref12_Check.j0]; rfl) (Ev.now _)
  by_cases c1 : l.length < 1
  · simp only [if_pos (show (l.length : Int) < 1 by omega)]
    exact bad (by unfold progOk; rw [decide_eq_false (show ¬ 1 ≤ l.length by omega)]; rfl)
  simp only [if_neg (show ¬ (l.length : Int) < 1 by omega)]
  by_cases c2 : 20000 < l.length
  · simp only [if_pos (show (l.length : Int) > 20000 by omega)]
    exact bad (by unfold progOk; rw [decide_eq_false (show ¬ l.length ≤ 20000 by omega)]; simp)
  simp only [if_neg (show ¬ (l.length : Int) > 20000 by omega)]
  refine Ev.bind (names_ev names hn hz) ?_
  by_cases c3 : fitOk names = true
  · have hp : progOk l names raw = (List.range l.length).all fun i => fitsX (l.getD i z47) l.length names.length raw := by
      unfold progOk
      rw [c3, decide_eq_true (show 1 ≤ l.length by omega), decide_eq_true (show l.length ≤ 20000 by omega)]
      rfl
    have hn40 : names.length ≤ 40 := by
      unfold fitOk at c3
      simp only [Bool.and_eq_true, decide_eq_true_eq] at c3
      exact c3.1
    simp only [c3, Bool.not_true]
    refine Ev.step (f := fun k => thistleref12_Check.l0 k (l.length : Int) 0 l names raw) (fun k => by simp only [thistleref12_Check.j0]; rfl) ?_
    have go : ∀ d i : Nat, l.length - i = d → i ≤ l.length → (∀ j, j < i → fitsX (l.getD j z47) l.length names.length raw = true) → Ev (fun k => thistleref12_Check.l0 k (l.length : Int) (i : Int) l names raw) (errNo (progOk l names raw)) := by
      intro d
      induction d with
      | zero =>
        intro i hd hi hall
        rw [hp, List.all_eq_true.2 (fun j hj => hall j (by have : j < l.length := by simpa using hj
                                                           omega))]
        exact Ev.step (f := fun _ => some 0) (fun k => by simp only [thistleref12_Check.l0]; rw [if_neg (by omega)]) (Ev.now _)
      | succ d ih =>
        intro i hd hi hall
        have hi' : i < l.length := by omega
        obtain ⟨s1, s2⟩ := hs _ (List.getElem_mem hi')
        have hI := inst_ev l[i].f0 l[i].f1 l[i].f2 l[i].f3 l[i].f4 l.length names.length raw hl hn40 s1 s2
        have hgd : l.getD i z47 = l[i] := (getD_at l i _ hi').symm
        refine Ev.step (f := fun k => (thistleref12_inst.f k l[i].f0 l[i].f1 l[i].f2 l[i].f3 l[i].f4 l.length names.length raw).bind fun t => if t = true then thistleref12_Check.l0 k (l.length : Int) ((i + 1 : Nat) : Int) l names raw else some 1) (fun k => by simp only [thistleref12_Check.l0]; rw [if_pos (by omega), if_pos (by omega), if_pos (by omega), rdI_at l i hi', up1 i _ hi' hl]) ?_
        refine Ev.bind hI ?_
        by_cases hx : fitsX l[i] l.length names.length raw = true
        · have hx' : fitsV l[i].f0 l[i].f1 l[i].f2 l[i].f3 l[i].f4 l.length names.length raw = true := hx
          simp only [hx', if_true]
          exact ih (i + 1) (by omega) (by omega) (fun j hj => by
            by_cases e : j = i
            · rw [e, hgd]; exact hx
            · exact hall j (by omega))
        · have hx' : fitsV l[i].f0 l[i].f1 l[i].f2 l[i].f3 l[i].f4 l.length names.length raw = false := (by simpa using hx : fitsX l[i] l.length names.length raw = false)
          simp only [hx', Bool.false_eq_true, if_false]
          rw [hp, List.all_eq_false.2 ⟨i, by simpa using hi', by rw [hgd]; exact hx⟩]
          exact Ev.now _
    exact go l.length 0 rfl (by omega) (by omega)
  · have c3' : fitOk names = false := by simpa using c3
    simp only [c3', Bool.not_false]
    exact bad (by unfold progOk; rw [c3']; simp)
/-- A copy is what it is a copy of. -/
theorem copy_ev (l : List S47) (names : List ByteArray) (raw : Bool) (hl : l.length < 2513169434916) (hn : names.length < 8796093022208) (hs : ∀ x ∈ l, x.f1.length < 17592186044416) :
    Ev (fun k => thistleref02_CopyProg.f k l names raw) (l, names, raw) := by
  unfold thistleref02_CopyProg.f
  simp only [Option.bind_some, List.length_nil, Nat.zero_add, List.nil_append, if_pos hn]
  have go : ∀ d i : Nat, l.length - i = d → i ≤ l.length → Ev (fun k => thistleref02_CopyProg.l0 k (i : Int) l names raw (l.take i) names raw) (l, names, raw) := by
    intro d
    induction d with
    | zero =>
      intro i hd hi
      obtain rfl : i = l.length := by omega
      rw [List.take_length]
      exact Ev.step (f := fun _ => some _) (fun k => by simp only [thistleref02_CopyProg.l0]; rw [if_neg (by omega)]) (Ev.now _)
    | succ d ih =>
      intro i hd hi
      have hi' : i < l.length := by omega
      refine Ev.step (fun k => ?_) (ih (i + 1) (by omega) (by omega))
      simp only [thistleref02_CopyProg.l0, Option.bind_some, List.length_nil, Nat.zero_add, List.nil_append]
      rw [if_pos (by omega), if_pos (by omega), rdI_at l i hi', if_pos (hs _ (List.getElem_mem hi')), if_pos (by rw [List.length_take]; omega), up1 i _ hi' (by omega)]
      rw [List.take_succ_eq_append_getElem hi']
  exact go l.length 0 rfl (by omega)
end PProgChecks
end Go.Proofs.YtmbboianghbjkaaDoor
