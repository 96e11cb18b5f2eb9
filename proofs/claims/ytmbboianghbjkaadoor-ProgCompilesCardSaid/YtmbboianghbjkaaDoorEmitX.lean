import Derived.Test.YtmbboianghbjkaaDoorEmitW
namespace Go.Proofs.YtmbboianghbjkaaDoor
open Go.RowKit Go.Shelf
set_option linter.unusedVariables false
set_option linter.unusedSimpArgs false

/-! plain: the emission is no longer than the weight -/
def wGet (nodes : List Node) (k : Nat) : Int := (wTo nodes nodes.length).getD k 0
theorem wTo_pre (nodes : List Node) (q k : Nat) (h : q < k) : ∀ d, (wTo nodes (k + d)).getD q 0 = (wTo nodes k).getD q 0
  | 0 => rfl
  | d + 1 => by
    rw [← wTo_pre nodes q k h d]
    show (wTo nodes (k + d) ++ [_]).getD q 0 = _
    simp only [List.getD_eq_getElem?_getD]
    rw [List.getElem?_append_left (by rw [wTo_len]; omega)]
theorem wGet_pre (nodes : List Node) (q k : Nat) (h : q < k) (hk : k ≤ nodes.length) : (wTo nodes k).getD q 0 = wGet nodes q := by
  have := wTo_pre nodes q k h (nodes.length - k)
  rw [show k + (nodes.length - k) = nodes.length by omega] at this
  exact this.symm
theorem wGet_eq (nodes : List Node) (k : Nat) (hk : k < nodes.length) : wGet nodes k = mnI (wRaw (nodes.getD k default) (wSum (wTo nodes k) (nodes.getD k default).kids (nodes.getD k default).kids.length)) 1000000 := by
  rw [← wGet_pre nodes k (k + 1) (by omega) (by omega)]
  show (wTo nodes k ++ [_]).getD k 0 = _
  simp only [List.getD_eq_getElem?_getD]
  rw [List.getElem?_append_right (by rw [wTo_len]; omega), wTo_len]
  simp
theorem wSum_eq (nodes : List Node) (k : Nat) (hk : k ≤ nodes.length) (ks : List Nat) (hlt : ∀ q ∈ ks, q < k) : wSum (wTo nodes k) (ks.map (fun q : Nat => (q : Int))) (ks.map (fun q : Nat => (q : Int))).length = (ks.map (wGet nodes)).sum := by
  unfold wSum
  rw [List.take_length, foldl_add (fun q => (wTo nodes k).getD q.toNat 0), Int.zero_add, List.map_map]
  congr 1
  refine List.map_congr_left fun q hq => ?_
  simp only [Function.comp, Int.toNat_natCast]
  exact wGet_pre nodes q k (hlt q hq) hk
theorem mem_le_sum (g : Nat → Int) : ∀ (l : List Nat), (∀ q ∈ l, 0 ≤ g q) → 0 ≤ (l.map g).sum ∧ ∀ q ∈ l, g q ≤ (l.map g).sum
  | [], _ => by simp
  | x :: l, h => by
    obtain ⟨h1, h2⟩ := mem_le_sum g l (fun q hq => h q (by simp [hq]))
    have hx := h x (by simp)
    rw [List.map_cons, List.sum_cons]
    refine ⟨by omega, fun q hq => ?_⟩
    rcases List.mem_cons.1 hq with rfl | hq
    · omega
    · have := h2 q hq
      omega
theorem emit_len (nodes : List Node) (hF : ∀ k, k < nodes.length → NodeFits nodes k) (hp : ∀ k, k < nodes.length → 0 ≤ wGet nodes k) : ∀ f k, k < nodes.length → wGet nodes k ≤ 5000 → ∀ nx lv m, ((emitF nodes f k nx lv m).1.length : Int) ≤ wGet nodes k := by
  intro f
  induction f with
  | zero => intro k hk hw nx lv m; have := hp k hk; simpa [emitF] using this
  | succ f ih =>
    intro k hk hw nx lv m
    have hfit := hF k hk
    obtain ⟨ks, hks, hlt, hkl⟩ := hfit.kids
    have hnn : ∀ q ∈ ks, 0 ≤ wGet nodes q := fun q hq => hp q (by have := hlt q hq; omega)
    obtain ⟨hs0, hsm⟩ := mem_le_sum (wGet nodes) ks hnn
    have hwe := wGet_eq nodes k hk
    rw [hks, wSum_eq nodes k (by omega) ks hlt] at hwe
    have hraw : wRaw (nodes.getD k default) (ks.map (wGet nodes)).sum = wGet nodes k := by
      rw [hwe]
      rw [hwe] at hw
      unfold mnI at hw ⊢
      split at hw <;> split <;> omega
    have hu : emitF nodes (f + 1) k nx lv m = opF (emitF nodes f) (nodes.getD k default) nx lv m := rfl
    rw [hu, ← hraw]
    have hkid : (ks.map (wGet nodes)).sum ≤ 5000 → ∀ q ∈ ks, ∀ nx lv m, ((emitF nodes f q nx lv m).1.length : Int) ≤ wGet nodes q := fun h5 q hq => ih q (by have := hlt q hq; omega) (by have := hsm q hq; omega)
    obtain ⟨p1, p2⟩ := hfit.op
    have h6 : (nodes.getD k default).op = 1 ∨ (nodes.getD k default).op = 2 ∨ (nodes.getD k default).op = 3 ∨ (nodes.getD k default).op = 4 ∨ (nodes.getD k default).op = 5 ∨ (nodes.getD k default).op = 6 := by omega
    rw [← hraw] at hw
    have hrev : (ks.reverse.map (wGet nodes)).sum = (ks.map (wGet nodes)).sum := by rw [List.map_reverse, List.sum_reverse]
    rcases h6 with h | h | h | h | h | h
    · have e : wRaw (nodes.getD k default) (ks.map (wGet nodes)).sum = (ks.map (wGet nodes)).sum + 1 := by unfold wRaw; rw [h]; rfl
      have e2 : (opF (emitF nodes f) (nodes.getD k default) nx lv m).1.length = 1 := by unfold opF; rw [h]; rfl
      rw [e, e2]
      omega
    · have e : wRaw (nodes.getD k default) (ks.map (wGet nodes)).sum = (ks.map (wGet nodes)).sum + 1 := by unfold wRaw; rw [h]; rfl
      have e2 : opF (emitF nodes f) (nodes.getD k default) nx lv m = catF (emitF nodes f) lv ks.reverse nx m := by unfold opF; rw [h, kidsB_of hks]; rfl
      rw [e, e2]
      rw [e] at hw
      have := catF_leW (emitF nodes f) lv (wGet nodes) ks.reverse nx m (fun q hq => hkid (by omega) q (by simpa using hq))
      omega
    · have hne : ks ≠ [] := fun e => hfit.alt h (by rw [hks, e]; rfl)
      obtain ⟨ks', k0, rfl⟩ : ∃ ks' k0, ks = ks' ++ [k0] := ⟨ks.dropLast, ks.getLast hne, (List.dropLast_concat_getLast hne).symm⟩
      have e : wRaw (nodes.getD k default) ((ks' ++ [k0]).map (wGet nodes)).sum = ((ks' ++ [k0]).map (wGet nodes)).sum + (ks'.length + 1) := by unfold wRaw; rw [h, hks]; simp
      have e2 : opF (emitF nodes f) (nodes.getD k default) nx lv m = ((emitF nodes f k0 nx lv m).1 ++ (altF (emitF nodes f) nx lv ks'.reverse (emitF nodes f k0 nx lv m).2 (m + (emitF nodes f k0 nx lv m).1.length)).1, (altF (emitF nodes f) nx lv ks'.reverse (emitF nodes f k0 nx lv m).2 (m + (emitF nodes f k0 nx lv m).1.length)).2) := by
        unfold opF
        rw [h, kidsB_of hks]
        simp
      rw [e, e2]
      rw [e] at hw
      have hk2 := hkid (by omega)
      have a1 := hk2 k0 (by simp) nx lv m
      have a2 := altF_leW (emitF nodes f) nx lv (wGet nodes) ks'.reverse (emitF nodes f k0 nx lv m).2 (m + (emitF nodes f k0 nx lv m).1.length) (fun q hq => hk2 q (by simp at hq; simp [hq]))
      rw [List.map_reverse, List.sum_reverse, List.length_reverse] at a2
      have e3 : ((ks' ++ [k0]).map (wGet nodes)).sum = (ks'.map (wGet nodes)).sum + wGet nodes k0 := by simp
      rw [e3]
      simp only [List.length_append]
      push_cast
      omega
    · have h1 := hfit.one (Or.inl h)
      rw [hks, List.length_map] at h1
      obtain ⟨k0, rfl⟩ : ∃ k0, ks = [k0] := by
        match ks, h1 with
        | [k0], _ => exact ⟨k0, rfl⟩
      have e : wRaw (nodes.getD k default) (([k0] : List Nat).map (wGet nodes)).sum = copies (nodes.getD k default) * (wGet nodes k0 + 3) + 1 := by unfold wRaw; rw [h]; simp
      have e2 : opF (emitF nodes f) (nodes.getD k default) nx lv m = repF (emitF nodes f) k0 (nodes.getD k default) nx lv m := by
        unfold opF kid0
        rw [h, hks]
        rfl
      rw [e, e2]
      rw [e] at hw
      obtain ⟨n1, n2, n3, n4, n5⟩ := hfit.num h
      have hw0 := hnn k0 (by simp)
      by_cases hc : copies (nodes.getD k default) = 0
      · have hmx : (nodes.getD k default).max = 0 ∧ (nodes.getD k default).min = 0 := by
          unfold copies at hc
          split at hc <;> omega
        have e4 : (repF (emitF nodes f) k0 (nodes.getD k default) nx lv m).1 = [] := by
          unfold repF
          rw [hmx.1, hmx.2]
          rfl
        rw [e4, hc]
        simp
      · have hc1 : 1 ≤ copies (nodes.getD k default) := by
          unfold copies at hc ⊢
          split at hc <;> split <;> omega
        have hle : wGet nodes k0 + 3 ≤ copies (nodes.getD k default) * (wGet nodes k0 + 3) := by
          have := Int.mul_le_mul_of_nonneg_right hc1 (show 0 ≤ wGet nodes k0 + 3 by omega)
          omega
        obtain ⟨E, hE⟩ : ∃ E : Nat, wGet nodes k0 = (E : Int) := ⟨(wGet nodes k0).toNat, by omega⟩
        have hk2 := ih k0 (by have := hlt k0 (by simp); omega) (by omega)
        have a := repF_len (emitF nodes f) k0 (nodes.getD k default) nx lv m E n1 n5 (fun nx lv m => by have := hk2 nx lv m; omega)
        rw [← hE] at a
        omega
    · have h1 := hfit.one (Or.inr h)
      rw [hks, List.length_map] at h1
      obtain ⟨k0, rfl⟩ : ∃ k0, ks = [k0] := by
        match ks, h1 with
        | [k0], _ => exact ⟨k0, rfl⟩
      have e : wRaw (nodes.getD k default) (([k0] : List Nat).map (wGet nodes)).sum = wGet nodes k0 + 2 := by unfold wRaw; rw [h]; simp
      have e2 : (opF (emitF nodes f) (nodes.getD k default) nx lv m).1.length = (emitF nodes f k0 (m : Int) lv (m + 1)).1.length + 2 := by
        unfold opF kid0
        rw [h, hks]
        simp
      rw [e, e2]
      rw [e] at hw
      have a1 := ih k0 (by have := hlt k0 (by simp); omega) (by omega) (m : Int) lv (m + 1)
      push_cast
      omega
    · have e : wRaw (nodes.getD k default) (ks.map (wGet nodes)).sum = (ks.map (wGet nodes)).sum + 1 := by unfold wRaw; rw [h]; rfl
      have e2 : (opF (emitF nodes f) (nodes.getD k default) nx lv m).1.length = 1 := by unfold opF; rw [h]; rfl
      rw [e, e2]
      omega
end Go.Proofs.YtmbboianghbjkaaDoor
