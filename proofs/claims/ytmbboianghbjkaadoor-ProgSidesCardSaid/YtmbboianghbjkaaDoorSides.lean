import Derived.Test.YtmbboianghbjkaaDoorAwake
namespace Go.Proofs.YtmbboianghbjkaaDoor
open Go.RowKit Go.Shelf
set_option linter.unusedVariables false
set_option linter.unusedSimpArgs false
attribute [local go_sem] bl_refl bl_alloc bl_a2 bl_a3 bl_a4 bl_a5 bl_set bl_drew bl_drewN le_add_r lt_add_r addr_add

theorem holds_any (B : Nat) (w0 w : World) (s : ByteArray) (hs : s.size ≤ 9223372036854775807) (hb : Below B w0 w) (hB : B ≤ w.heap.size) (hT : TabsAt B w0) (n : Int) (a : Int) (raw : Bool) :
    Calls Tryd.prog 12 #[.int .i64 n, .string s, .int .i64 a, .bool raw] w fun e w' => e = .returned (.bool (lookB n s a raw)) ∧ Below w.heap.size w w' := by
  go_enter Tryd.func12, Tryd.ntmps12
  go_wp2_with fail
  refine (look_any B w0 w s hs hb hB hT _ _ _).mono ?_
  rintro e w1 ⟨rfl, hb1⟩
  by_cases h : lookE n s a raw = 0
  · rw [h]
    cases hl : lookB n s a raw
    · go_wp2
      go_ret
      exact ⟨ret_bool hl.symm, hb1⟩
    · go_wp2
      go_ret
      exact ⟨ret_bool hl.symm, hb1⟩
  · have hl : lookB n s a raw = false := by unfold lookB; rw [if_neg h]
    rw [hl]
    go_wp2
    go_ret
    exact ⟨ret_bool hl.symm, hb1⟩
def isV (s : ByteArray) (a : Int) (c : Nat) : Bool := decide (0 ≤ a) && decide (a < s.size) && decide ((s.get! a.toNat).toNat = c)
theorem is_any (w : World) (s : ByteArray) (hs : s.size ≤ 9223372036854775807) (a : Int) :
    Calls Tryd.prog 13 #[.string s, .int .i64 a, .int .u8 10] w fun e w' => e = .returned (.bool (isV s a 10)) ∧ w' = w := by
  by_cases h0 : 0 ≤ a
  · by_cases h1 : a < s.size
    · obtain ⟨k, rfl⟩ := Int.eq_ofNat_of_zero_le h0
      have h2 : k < s.size := by omega
      have hg := get_at s k h2
      go_enter Tryd.func13, Tryd.ntmps13
      go_wp2
      go_ret
      refine ⟨ret_bool ?_, rfl⟩
      unfold isV
      simp only [Int.toNat_natCast]
      have hgn : (s.get! k).toNat = s[k].toNat := by rw [hg]
      simp [h2, hgn, beq10]
    · go_enter Tryd.func13, Tryd.ntmps13
      go_wp2
      go_ret
      exact ⟨ret_bool (by simp [isV]; intro a b; omega), rfl⟩
  · go_enter Tryd.func13, Tryd.ntmps13
    go_wp2
    go_ret
    exact ⟨ret_bool (by simp [isV]; intro a b; omega), rfl⟩
theorem look_same (n : Int) (s : ByteArray) (m : Nat) (hm : m ≤ s.size) (h1 : 1 ≤ n) (h2 : n ≤ 6) (hb : border s (m : Int) = true) : lookE n s (m : Int) false = 0 ∧ lookB n s (m : Int) false = lookB n s (m : Int) true := by
  have e1 : lookE n s (m : Int) false = 0 := lookE_ok (by omega) (by simp [hb]; omega)
  have e2 : lookE n s (m : Int) true = 0 := lookE_ok (by simp; omega) (by simp; omega)
  exact ⟨e1, by unfold lookB; rw [if_pos e1, if_pos e2]⟩
theorem look_none (n : Int) (s : ByteArray) (m : Nat) (h1 : 1 ≤ n) (h2 : n ≤ 6) (hb : border s (m : Int) = false) : lookE n s (m : Int) false = 3 ∧ lookB n s (m : Int) false = false := by
  have e1 : lookE n s (m : Int) false = 3 := lookE_rng (by omega) (.inr (.inr ⟨rfl, hb⟩))
  exact ⟨e1, by unfold lookB; rw [if_neg (by rw [e1]; decide)]⟩
theorem look_raw (n : Int) (s : ByteArray) (m : Nat) (hm : m ≤ s.size) (h1 : 1 ≤ n) (h2 : n ≤ 8) : lookB n s (m : Int) true = holdV n s m := by
  have e2 : lookE n s (m : Int) true = 0 := lookE_ok (by simp; omega) (by simp; omega)
  unfold lookB
  rw [if_pos e2]
  rfl

set_option maxRecDepth 100000 in
set_option maxHeartbeats 2000000 in
theorem sides_out (B : Nat) (w0 w : World) (s : ByteArray) (hs : s.size ≤ 9223372036854775807) (hb : Below B w0 w) (hB : B ≤ w.heap.size) (hg : BandsAt B w0) (hT : TabsAt B w0) (a : Int) (ha : a < 0 ∨ (s.size : Int) < a) :
    Calls Tryd.prog 4 #[.string s, .int .i64 a] w fun e w' => e = .returned (.bool true) ∧ Below w.heap.size w w' := by
  have HT := Lib.hid hT
  have e1 : lookE 1 s a true = 3 := lookE_rng (by simp) (by rcases ha with h | h <;> simp [h])
  have e2 : lookE 1 s a false = 3 := lookE_rng (by simp) (by rcases ha with h | h <;> simp [h])
  have E1 := Lib.hid e1
  have E2 := Lib.hid e2
  have AW := Lib.hid (awake_any B w0 w hb hB hg hT)
  clear hT e1 e2 hg
  by_cases h : a < 0
  · clear ha
    go_enter Tryd.func4, Tryd.ntmps4
    go_wp2_with fail
    refine AW.out.mono ?_
    rintro e w1 ⟨rfl, hb1⟩
    go_wp2_with fail
    refine (look_any B w0 w1 s hs (hb.trans (hb1.mono hB)) (Nat.le_trans hB hb1.size) HT.out _ _ _).mono ?_
    rintro e w2 ⟨rfl, hb2⟩
    rw [E1.out]
    have hb12 := hb1.trans (hb2.mono hb1.size)
    go_wp2_with fail
    refine (look_any B w0 w2 s hs (hb.trans (hb12.mono hB)) (Nat.le_trans hB hb12.size) HT.out _ _ _).mono ?_
    rintro e w3 ⟨rfl, hb3⟩
    rw [E2.out]
    go_wp2
    go_ret
    exact ⟨rfl, hb12.trans (hb3.mono hb12.size)⟩
  · have h2 : (s.size : Int) < a := by omega
    have h3 : 0 ≤ a := by omega
    clear ha h
    go_enter Tryd.func4, Tryd.ntmps4
    go_wp2_with fail
    refine AW.out.mono ?_
    rintro e w1 ⟨rfl, hb1⟩
    go_wp2_with fail
    refine (look_any B w0 w1 s hs (hb.trans (hb1.mono hB)) (Nat.le_trans hB hb1.size) HT.out _ _ _).mono ?_
    rintro e w2 ⟨rfl, hb2⟩
    rw [E1.out]
    have hb12 := hb1.trans (hb2.mono hb1.size)
    go_wp2_with fail
    refine (look_any B w0 w2 s hs (hb.trans (hb12.mono hB)) (Nat.le_trans hB hb12.size) HT.out _ _ _).mono ?_
    rintro e w3 ⟨rfl, hb3⟩
    rw [E2.out]
    go_wp2
    go_ret
    exact ⟨rfl, hb12.trans (hb3.mono hb12.size)⟩
end Go.Proofs.YtmbboianghbjkaaDoor
