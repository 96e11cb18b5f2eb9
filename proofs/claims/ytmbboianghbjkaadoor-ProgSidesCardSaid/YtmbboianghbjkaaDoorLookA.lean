import Derived.Test.YtmbboianghbjkaaDoorNext
import Derived.Test.YtmbboianghbjkaaDoorQuiet
namespace Go.Proofs.YtmbboianghbjkaaDoor
open Go.RowKit Go.Shelf
set_option linter.unusedVariables false
set_option linter.unusedSimpArgs false
attribute [local go_sem] bl_refl bl_alloc bl_a2 bl_a3 bl_a4 bl_a5 bl_set bl_drew bl_drewN le_add_r lt_add_r addr_add max2_i min2_i max_2 min_2

def lookE (n : Int) (s : ByteArray) (a : Int) (raw : Bool) : Int :=
  if n < 1 ∨ 8 < n ∨ (6 < n ∧ raw = false) then 2 else if a < 0 ∨ (s.size : Int) < a ∨ (raw = false ∧ border s a = false) then 3 else 0
def holdV (n : Int) (s : ByteArray) (a : Nat) : Bool :=
  if n = 1 then decide (a = 0) else if n = 2 then decide (a = s.size) else if n = 3 then decide (a = 0) || decide ((s.get! (a - 1)).toNat = 10) else if n = 4 then decide (a = s.size) || decide ((s.get! a).toNat = 10)
  else if n = 8 then border s a else if n = 7 then decide (a = s.size) || decide (1114112 ≤ nextU s a) else ((wordAtS s ((a : Int) - 1) != wordAtS s a) == decide (n = 5))
def lookB (n : Int) (s : ByteArray) (a : Int) (raw : Bool) : Bool := if lookE n s a raw = 0 then holdV n s a.toNat else false
theorem lookE_arg {n : Int} {s : ByteArray} {a : Int} {raw : Bool} (h : n < 1 ∨ 8 < n ∨ (6 < n ∧ raw = false)) : lookE n s a raw = 2 := by unfold lookE; rw [if_pos h]
theorem lookE_rng {n : Int} {s : ByteArray} {a : Int} {raw : Bool} (h : ¬ (n < 1 ∨ 8 < n ∨ (6 < n ∧ raw = false))) (h2 : a < 0 ∨ (s.size : Int) < a ∨ (raw = false ∧ border s a = false)) : lookE n s a raw = 3 := by unfold lookE; rw [if_neg h, if_pos h2]
theorem lookE_ok {n : Int} {s : ByteArray} {a : Int} {raw : Bool} (h : ¬ (n < 1 ∨ 8 < n ∨ (6 < n ∧ raw = false))) (h2 : ¬ (a < 0 ∨ (s.size : Int) < a ∨ (raw = false ∧ border s a = false))) : lookE n s a raw = 0 := by unfold lookE; rw [if_neg h, if_neg h2]
theorem look_res {n : Int} {s : ByteArray} {a : Int} {raw b : Bool} {e : Int} (h : lookE n s a raw = e) (h2 : e = 0 → holdV n s a.toNat = b) (h3 : e ≠ 0 → b = false) : Ending.returned (.tuple #[.bool b, .int .i64 e]) = .returned (.tuple #[.bool (lookB n s a raw), .int .i64 (lookE n s a raw)]) := by
  unfold lookB
  rw [h]
  by_cases h0 : e = 0
  · rw [if_pos h0, h2 h0]
  · rw [if_neg h0, h3 h0]
theorem word_q {B : Nat} {W : World} (x : Ex B W) (s : ByteArray) (n : Int) (hs : s.size ≤ 9223372036854775807) :
    Calls Tryd.prog 34 #[.string s, .int .i64 n] x.val fun e w' => e = .returned (.bool (wordAtS s n)) ∧ ∃ y : Ex B W, w' = y.val := (word_any _ _ _ hs).mono fun _ _ ⟨h, k⟩ => ⟨h, x, k⟩
theorem beq10 (x : Nat) : (((x : Nat) : Int) == 10) = decide (x = 10) := by
  rw [Bool.eq_iff_iff]
  simp
  omega
set_option maxHeartbeats 2000000 in
theorem look_arg (w : World) (n : Int) (s : ByteArray) (a : Int) (raw : Bool) (c1 : n < 1 ∨ 8 < n ∨ (6 < n ∧ raw = false)) :
    Calls Tryd.prog 10 #[.int .i64 n, .string s, .int .i64 a, .bool raw] w fun e w' => e = .returned (.tuple #[.bool (lookB n s a raw), .int .i64 (lookE n s a raw)]) ∧ Below w.heap.size w w' := by
  have HE := Lib.hid (lookE_arg (s := s) (a := a) c1)
  by_cases d1 : n < 1
  · clear c1
    go_enter Tryd.func10, Tryd.ntmps10
    go_wp2
    go_ret2
    exact ⟨look_res HE.out (by simp) (by simp), Below.refl _ _⟩
  by_cases d2 : 8 < n
  · clear c1
    go_enter Tryd.func10, Tryd.ntmps10
    go_wp2
    go_ret2
    exact ⟨look_res HE.out (by simp) (by simp), Below.refl _ _⟩
  obtain ⟨d3, rfl⟩ : 6 < n ∧ raw = false := by rcases c1 with h | h | h <;> first | exact absurd h (by assumption) | exact h
  clear c1
  go_enter Tryd.func10, Tryd.ntmps10
  go_wp2
  go_ret2
  exact ⟨look_res HE.out (by simp) (by simp), Below.refl _ _⟩
set_option maxHeartbeats 2000000 in
theorem look_rng (w : World) (n : Int) (s : ByteArray) (a : Int) (raw : Bool) (d1 : 1 ≤ n) (d2 : n ≤ 8) (d3 : raw = false → n ≤ 6) (hr : a < 0 ∨ (s.size : Int) < a) :
    Calls Tryd.prog 10 #[.int .i64 n, .string s, .int .i64 a, .bool raw] w fun e w' => e = .returned (.tuple #[.bool (lookB n s a raw), .int .i64 (lookE n s a raw)]) ∧ Below w.heap.size w w' := by
  have HE : Hid (lookE n s a raw = 3) := Lib.hid (lookE_rng (by
    rintro (h | h | ⟨h, h'⟩)
    · omega
    · omega
    · have := d3 h'; omega) (by rcases hr with h | h <;> simp [h]))
  by_cases e1 : a < 0
  · clear hr
    cases raw
    · have d4 := d3 rfl
      clear d3
      go_enter Tryd.func10, Tryd.ntmps10
      go_wp2
      go_ret2
      exact ⟨look_res HE.out (by simp) (by simp), Below.refl _ _⟩
    · clear d3
      go_enter Tryd.func10, Tryd.ntmps10
      go_wp2
      all_goals
        go_ret2
        exact ⟨look_res HE.out (by simp) (by simp), Below.refl _ _⟩
  · have e2 : (s.size : Int) < a := by omega
    have e3 : 0 ≤ a := by omega
    clear hr e1
    cases raw
    · have d4 := d3 rfl
      clear d3
      go_enter Tryd.func10, Tryd.ntmps10
      go_wp2
      go_ret2
      exact ⟨look_res HE.out (by simp) (by simp), Below.refl _ _⟩
    · clear d3
      go_enter Tryd.func10, Tryd.ntmps10
      go_wp2
      all_goals
        go_ret2
        exact ⟨look_res HE.out (by simp) (by simp), Below.refl _ _⟩
end Go.Proofs.YtmbboianghbjkaaDoor
