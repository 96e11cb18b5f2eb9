import Derived.Test.YtmbboianghbjkaaDoorLookA
namespace Go.Proofs.YtmbboianghbjkaaDoor
open Go.RowKit Go.Shelf
set_option linter.unusedVariables false
set_option linter.unusedSimpArgs false
attribute [local go_sem] bl_refl bl_alloc bl_a2 bl_a3 bl_a4 bl_a5 bl_set bl_drew bl_drewN le_add_r lt_add_r addr_add max2_i min2_i max_2 min_2

set_option maxHeartbeats 2000000 in
theorem lookF4 (B : Nat) (w0 w : World) (s : ByteArray) (hs : s.size ≤ 9223372036854775807) (hb : Below B w0 w) (hB : B ≤ w.heap.size) (hT : TabsAt B w0) (m : Nat) (e3 : m ≤ s.size) (hbd : border s (m : Int) = true) :
    Calls Tryd.prog 10 #[.int .i64 4, .string s, .int .i64 (m : Int), .bool false] w fun e w' => e = .returned (.tuple #[.bool (lookB 4 s (m : Int) false), .int .i64 (lookE 4 s (m : Int) false)]) ∧ Below w.heap.size w w' := by
  have HO : Hid (lookE 4 s (m : Int) false = 0) := Lib.hid (lookE_ok (by simp) (by simp [hbd]; omega))
  go_enter Tryd.func10, Tryd.ntmps10
  go_wp2_with fail
  refine (border_any B w0 _ s m hs hb hB hT).mono ?_
  rintro e w1 ⟨rfl, hb1⟩
  rw [hbd]
  by_cases z : m = s.size
  · subst z
    go_wp2
    go_ret2
    exact ⟨look_res HO.out (fun _ => by simp [holdV]) (fun h => absurd rfl h), hb1⟩
  · have z' : ((m : Int) == (s.size : Int)) = false := by simp; omega
    have hj : m < s.size := by omega
    have hg := get_at s m hj
    go_wp2
    go_ret2
    exact ⟨look_res HO.out (fun _ => by simp [holdV, z, hg, beq10]) (fun h => absurd rfl h), hb1⟩
set_option maxHeartbeats 2000000 in
theorem lookF5 (B : Nat) (w0 w : World) (s : ByteArray) (hs : s.size ≤ 9223372036854775807) (hb : Below B w0 w) (hB : B ≤ w.heap.size) (hT : TabsAt B w0) (m : Nat) (e3 : m ≤ s.size) (hbd : border s (m : Int) = true) :
    Calls Tryd.prog 10 #[.int .i64 5, .string s, .int .i64 (m : Int), .bool false] w fun e w' => e = .returned (.tuple #[.bool (lookB 5 s (m : Int) false), .int .i64 (lookE 5 s (m : Int) false)]) ∧ Below w.heap.size w w' := by
  have HO : Hid (lookE 5 s (m : Int) false = 0) := Lib.hid (lookE_ok (by simp) (by simp [hbd]; omega))
  go_enter Tryd.func10, Tryd.ntmps10
  go_wp2_with fail
  refine (border_any B w0 _ s m hs hb hB hT).mono ?_
  rintro e w1 ⟨rfl, hb1⟩
  rw [hbd]
  go_wp2_with (go_at_call 34; refine (word_any _ _ _ hs).mono ?_; rintro e w2 ⟨rfl, rfl⟩)
  go_ret2
  exact ⟨look_res HO.out (fun _ => by simp [holdV]; generalize wordAtS s ((m : Int) - 1) = p; generalize wordAtS s (m : Int) = q; cases p <;> cases q <;> rfl) (fun h => absurd rfl h), hb1⟩
set_option maxHeartbeats 2000000 in
theorem lookF6 (B : Nat) (w0 w : World) (s : ByteArray) (hs : s.size ≤ 9223372036854775807) (hb : Below B w0 w) (hB : B ≤ w.heap.size) (hT : TabsAt B w0) (m : Nat) (e3 : m ≤ s.size) (hbd : border s (m : Int) = true) :
    Calls Tryd.prog 10 #[.int .i64 6, .string s, .int .i64 (m : Int), .bool false] w fun e w' => e = .returned (.tuple #[.bool (lookB 6 s (m : Int) false), .int .i64 (lookE 6 s (m : Int) false)]) ∧ Below w.heap.size w w' := by
  have HO : Hid (lookE 6 s (m : Int) false = 0) := Lib.hid (lookE_ok (by simp) (by simp [hbd]; omega))
  go_enter Tryd.func10, Tryd.ntmps10
  go_wp2_with fail
  refine (border_any B w0 _ s m hs hb hB hT).mono ?_
  rintro e w1 ⟨rfl, hb1⟩
  rw [hbd]
  go_wp2_with (go_at_call 34; refine (word_any _ _ _ hs).mono ?_; rintro e w2 ⟨rfl, rfl⟩)
  go_ret2
  exact ⟨look_res HO.out (fun _ => by simp [holdV]; generalize wordAtS s ((m : Int) - 1) = p; generalize wordAtS s (m : Int) = q; cases p <;> cases q <;> rfl) (fun h => absurd rfl h), hb1⟩
end Go.Proofs.YtmbboianghbjkaaDoor
