import Derived.Test.YtmbboianghbjkaaDoorPChkProgChecks
namespace Go.Proofs.YtmbboianghbjkaaDoor
namespace PProgChecks
open Go.RowKit Go.Proofs.YtmbboianghbjkaaDoorW.PrintWords Go.Proofs.YtmbboianghbjkaaDoorW.PrintLast Go.Proofs.YtmbboianghbjkaaDoorW.PrintMore
set_option linter.unusedVariables false
set_option linter.unusedSimpArgs false

theorem wr64 (x : Int) (h0 : -9223372036854775808 ≤ x) (h1 : x ≤ 9223372036854775807) : wrap64 x = x := by unfold wrap64; omega
theorem wr32 (x : Int) (h0 : -2147483648 ≤ x) (h1 : x ≤ 2147483647) : wrap32 x = x := by unfold wrap32; omega
theorem bt_get (s : ByteArray) (i : Nat) (h : i < s.size) : bt s (i : Int) = ((s.get! i).toNat : Int) := by
  rw [get_at s i h]
  simp [bt, h]
theorem up1 (i n : Nat) (h : i < n) (hn : n ≤ 9223372036854775807) : wrap64 ((i : Int) + 1) = ((i + 1 : Nat) : Int) := by rw [wr64 _ (by omega) (by omega)]; omega

/-! names -/
theorem isName_step (k : Nat) (s : ByteArray) (i : Nat) (hs : s.size ≤ 9223372036854775807) :
    thistleref12_isName.l0 (k + 1) s (i : Int) = if i < s.size then (if letOk (s.get! i).toNat (decide (i = 0)) = true then thistleref12_isName.l0 k s ((i + 1 : Nat) : Int) else some false) else some true := by
  simp only [thistleref12_isName.l0]
  by_cases h : i < s.size
  · have hc : (s.get! i).toNat < 256 := (s.get! i).toNat_lt
    rw [if_pos (show (i : Int) < s.size by omega), if_pos (show (0 : Int) ≤ i by omega), if_pos h, bt_get s i h, up1 i _ h hs]
    generalize (s.get! i).toNat = c at *
    have hl : letOk (c : Int) (decide (i = 0)) = decide (c = 95 ∨ (97 ≤ c ∧ c ≤ 122) ∨ (65 ≤ c ∧ c ≤ 90) ∨ (i ≠ 0 ∧ 48 ≤ c ∧ c ≤ 57)) := by
      unfold letOk
      rw [Bool.eq_iff_iff]
      simp
      omega
    rw [hl]
    by_cases hd : (c = 95 ∨ (97 ≤ c ∧ c ≤ 122) ∨ (65 ≤ c ∧ c ≤ 90) ∨ (i ≠ 0 ∧ 48 ≤ c ∧ c ≤ 57))
    · rw [decide_eq_true hd, if_pos rfl]
      repeat' split
      all_goals first | rfl | (exfalso; omega)
    · rw [decide_eq_false hd]
      simp only [Bool.false_eq_true, if_false]
      repeat' split
      all_goals first | rfl | (exfalso; omega)
  · rw [if_neg (by omega), if_neg h]
theorem isName_ev (s : ByteArray) (hs : s.size ≤ 9223372036854775807) : Ev (fun k => thistleref12_isName.f k s) (nmOk s) := by
  unfold thistleref12_isName.f nmOk
  by_cases h : s.size ≤ 32
  · simp only [if_neg (show ¬ ((s.size : Int) > 32) by omega), decide_eq_true h, Bool.true_and]
    have go : ∀ d i : Nat, s.size - i = d → i ≤ s.size → (∀ j, j < i → letOk (s.get! j).toNat (decide (j = 0)) = true) → Ev (fun k => thistleref12_isName.l0 k s (i : Int)) ((List.range s.size).all fun j => letOk (s.get! j).toNat (decide (j = 0))) := by
      intro d
      induction d with
      | zero =>
        intro i hd hi hall
        refine Ev.step (f := fun _ => some true) (fun k => by rw [isName_step k s i hs, if_neg (by omega)]) ?_
        rw [List.all_eq_true.2 (fun j hj => hall j (by have : j < s.size := by simpa using hj
                                                       omega))]
        exact Ev.now _
      | succ d ih =>
        intro i hd hi hall
        by_cases hl : letOk (s.get! i).toNat (decide (i = 0)) = true
        · refine Ev.step (fun k => by rw [isName_step k s i hs, if_pos (by omega), if_pos hl]) (ih (i + 1) (by omega) (by omega) fun j hj => ?_)
          by_cases e : j = i
          · rw [e]; exact hl
          · exact hall j (by omega)
        · refine Ev.step (f := fun _ => some false) (fun k => by rw [isName_step k s i hs, if_pos (by omega), if_neg hl]) ?_
          rw [List.all_eq_false.2 ⟨i, by simp; omega, hl⟩]
          exact Ev.now _
    exact go s.size 0 rfl (by omega) (by omega)
  · simp only [if_pos (show (s.size : Int) > 32 by omega), decide_eq_false h, Bool.false_and]
    exact Ev.now _
theorem rdOf_at (xs : List ByteArray) (i : Nat) (h : i < xs.length) : rdOf ByteArray.empty xs (i : Int) = xs[i] := by
  simp [rdOf, List.getD_eq_getElem?_getD, List.getElem?_eq_getElem h]
theorem toList_nil (s : ByteArray) : s.toList = [] ↔ s.size = 0 := by
  rw [ByteArray.toList_eq]
  constructor
  · intro h
    have := congrArg List.length h
    simpa using this
  · intro h
    exact List.eq_nil_of_length_eq_zero (by simpa using h)
/-- Does one of the names ahead of i, from j on, have the same bytes? -/
def dup (xs : List ByteArray) (i j : Nat) : Bool := ((xs.take i).drop j).any fun x => (xs.getD i default).toList == x.toList
theorem names_in (xs : List ByteArray) (hl : xs.length ≤ 9223372036854775807) (i : Nat) (hi : i < xs.length) (r : Bool) (hr : Ev (fun k => thistleref12_Names.l0 k xs ((i + 1 : Nat) : Int)) r) :
    ∀ d j : Nat, i - j = d → j ≤ i → Ev (fun k => thistleref12_Names.l1 k xs (i : Int) (j : Int)) (!(!(decide ((xs[i]).size = 0)) && dup xs i j) && r) := by
  intro d
  have hgd : xs.getD i default = xs[i] := (getD_at xs i default hi).symm
  induction d with
  | zero =>
    intro j hd hj
    obtain rfl : j = i := by omega
    have hdup : dup xs j j = false := by unfold dup; rw [List.drop_of_length_le (by simp; omega)]; rfl
    rw [hdup]
    simp only [Bool.and_false, Bool.not_false, Bool.true_and]
    refine Ev.step (fun k => ?_) hr
    simp only [thistleref12_Names.l1]
    rw [if_neg (by omega), up1 j _ hi hl]
  | succ d ih =>
    intro j hd hj
    have hjl : j < xs.length := by omega
    have hstep : dup xs i j = ((xs[i].toList == xs[j].toList) || dup xs i (j + 1)) := by
      unfold dup
      rw [List.drop_eq_getElem_cons (show j < (xs.take i).length by simp; omega), List.any_cons, hgd]
      simp
    by_cases he : xs[i].size = 0
    · have := ih (j + 1) (by omega) (by omega)
      simp only [decide_eq_true he, Bool.not_true, Bool.false_and, Bool.not_false, Bool.true_and] at this ⊢
      refine Ev.step (fun k => ?_) this
      simp only [thistleref12_Names.l1]
      rw [if_pos (by omega), if_pos (by omega), if_pos (by omega), rdOf_at xs i hi, if_pos ((toList_nil _).2 he), up1 j _ hjl hl]
    · by_cases hs : xs[i].toList = xs[j].toList
      · rw [hstep, hs]
        simp only [decide_eq_false he, Bool.not_false, Bool.true_and, beq_self_eq_true, Bool.true_or, Bool.not_true, Bool.false_and]
        refine Ev.step (f := fun _ => some false) (fun k => ?_) (Ev.now _)
        simp only [thistleref12_Names.l1]
        rw [if_pos (by omega), if_pos (by omega), if_pos (by omega), rdOf_at xs i hi, if_neg (fun h => he ((toList_nil _).1 h)), if_pos (by omega), if_pos (by omega), rdOf_at xs j hjl, if_pos hs.symm]
      · have := ih (j + 1) (by omega) (by omega)
        rw [hstep, show (xs[i].toList == xs[j].toList) = false by simpa using hs, Bool.false_or]
        refine Ev.step (fun k => ?_) this
        simp only [thistleref12_Names.l1]
        rw [if_pos (by omega), if_pos (by omega), if_pos (by omega), rdOf_at xs i hi, if_neg (fun h => he ((toList_nil _).1 h)), if_pos (by omega), if_pos (by omega), rdOf_at xs j hjl, if_neg (fun h => hs h.symm), up1 j _ hjl hl]
theorem names_ev (xs : List ByteArray) (hl : xs.length ≤ 9223372036854775807) (hz : ∀ x ∈ xs, x.size ≤ 140737488351232) : Ev (fun k => thistleref12_Names.f k xs) (fitOk xs) := by
  unfold thistleref12_Names.f fitOk
  by_cases h : xs.length ≤ 40
  · simp only [if_neg (show ¬ ((xs.length : Int) > 40) by omega), decide_eq_true h, Bool.true_and]
    have go : ∀ d i : Nat, xs.length - i = d → i ≤ xs.length → (∀ j, j < i → nameOk (xs.take j) (xs.getD j default) = true) → Ev (fun k => thistleref12_Names.l0 k xs (i : Int)) ((List.range xs.length).all fun i => nameOk (xs.take i) (xs.getD i default)) := by
      intro d
      induction d with
      | zero =>
        intro i hd hi hall
        refine Ev.step (f := fun _ => some true) (fun k => by simp only [thistleref12_Names.l0]; rw [if_neg (by omega)]) ?_
        rw [List.all_eq_true.2 (fun j hj => hall j (by have : j < xs.length := by simpa using hj
                                                       omega))]
        exact Ev.now _
      | succ d ih =>
        intro i hd hi hall
        have hi' : i < xs.length := by omega
        have hgd : xs.getD i default = xs[i] := (getD_at xs i default hi').symm
        have hnm := isName_ev xs[i] (by have := hz _ (List.getElem_mem hi'); omega)
        have hcon : contS (xs.take i) xs[i] = dup xs i 0 := by unfold contS dup; rw [hgd]; rfl
        have hno := nameOk_nm (xs.take i) xs[i]
        rw [hcon] at hno
        refine Ev.step (f := fun k => (thistleref12_isName.f k xs[i]).bind fun t => if t = true then thistleref12_Names.l1 k xs (i : Int) 0 else some false) (fun k => by simp only [thistleref12_Names.l0]; rw [if_pos (by omega), if_pos (by omega), rdOf_at xs i hi']) ?_
        refine Ev.bind hnm ?_
        by_cases hn : nmOk xs[i] = true
        · simp only [hn, if_true]
          by_cases hok : nameOk (xs.take i) xs[i] = true
          · have hr := ih (i + 1) (by omega) (by omega) (fun j hj => by
              by_cases e : j = i
              · rw [e, hgd]; exact hok
              · exact hall j (by omega))
            have := names_in xs hl i hi' _ hr i 0 rfl (by omega)
            rw [hn, Bool.true_and] at hno
            rw [← hno, hok, Bool.true_and] at this
            exact this
          · have hok' : nameOk (xs.take i) xs[i] = false := by simpa using hok
            rw [List.all_eq_false.2 ⟨i, by simpa using hi', by rw [hgd]; exact hok⟩]
            -- the answer is false whatever stands behind
            have hdup : (!(decide (xs[i].size = 0)) && dup xs i 0) = true := by
              rw [hok', hn, Bool.true_and] at hno
              simpa using hno.symm
            have dead : ∀ d j : Nat, i - j = d → j ≤ i → (!(decide (xs[i].size = 0)) && dup xs i j) = true → Ev (fun k => thistleref12_Names.l1 k xs (i : Int) (j : Int)) false := by
              intro d
              induction d with
              | zero =>
                intro j hd hj hdd
                obtain rfl : j = i := by omega
                have : dup xs j j = false := by unfold dup; rw [List.drop_of_length_le (by simp; omega)]; rfl
                rw [this] at hdd
                simp at hdd
              | succ d ih2 =>
                intro j hd hj hdd
                have hjl : j < xs.length := by omega
                have he : ¬ xs[i].size = 0 := by
                  intro he
                  simp [he] at hdd
                have hstep : dup xs i j = ((xs[i].toList == xs[j].toList) || dup xs i (j + 1)) := by
                  unfold dup
                  rw [List.drop_eq_getElem_cons (show j < (xs.take i).length by simp; omega), List.any_cons, hgd]
                  simp
                by_cases hs : xs[i].toList = xs[j].toList
                · refine Ev.step (f := fun _ => some false) (fun k => ?_) (Ev.now _)
                  simp only [thistleref12_Names.l1]
                  rw [if_pos (by omega), if_pos (by omega), if_pos (by omega), rdOf_at xs i hi', if_neg (fun h => he ((toList_nil _).1 h)), if_pos (by omega), if_pos (by omega), rdOf_at xs j hjl, if_pos hs.symm]
                · rw [hstep, show (xs[i].toList == xs[j].toList) = false by simpa using hs, Bool.false_or] at hdd
                  refine Ev.step (fun k => ?_) (ih2 (j + 1) (by omega) (by omega) hdd)
                  simp only [thistleref12_Names.l1]
                  rw [if_pos (by omega), if_pos (by omega), if_pos (by omega), rdOf_at xs i hi', if_neg (fun h => he ((toList_nil _).1 h)), if_pos (by omega), if_pos (by omega), rdOf_at xs j hjl, if_neg (fun h => hs h.symm), up1 j _ hjl hl]
            exact dead i 0 rfl (by omega) hdup
        · have hn' : nmOk xs[i] = false := by simpa using hn
          simp only [hn', Bool.false_eq_true, if_false]
          rw [List.all_eq_false.2 ⟨i, by simpa using hi', by rw [hgd, hno, hn']; simp⟩]
          exact Ev.now _
    exact go xs.length 0 rfl (by omega) (by omega)
  · simp only [if_pos (show (xs.length : Int) > 40 by omega), decide_eq_false h, Bool.false_and]
    exact Ev.now _
end PProgChecks
end Go.Proofs.YtmbboianghbjkaaDoor
