import Derived.Test.YtmbboianghbjkaaDoorLookA
namespace Go.Proofs.YtmbboianghbjkaaDoor
open Go.RowKit Go.Shelf
set_option linter.unusedVariables false
set_option linter.unusedSimpArgs false
attribute [local go_sem] bl_refl bl_alloc bl_a2 bl_a3 bl_a4 bl_a5 bl_set bl_drew bl_drewN le_add_r lt_add_r addr_add max2_i min2_i max_2 min_2

set_option maxHeartbeats 2000000 in
theorem lookT5 (B : Nat) (w0 w : World) (s : ByteArray) (hs : s.size ≤ 9223372036854775807) (hb : Below B w0 w) (hB : B ≤ w.heap.size) (hT : TabsAt B w0) (m : Nat) (e3 : m ≤ s.size) :
    Calls Tryd.prog 10 #[.int .i64 5, .string s, .int .i64 (m : Int), .bool true] w fun e w' => e = .returned (.tuple #[.bool (lookB 5 s (m : Int) true), .int .i64 (lookE 5 s (m : Int) true)]) ∧ Below w.heap.size w w' := by
  have HO : Hid (lookE 5 s (m : Int) true = 0) := Lib.hid (lookE_ok (by simp) (by simp; omega))
  go_enter Tryd.func10, Tryd.ntmps10
  go_wp2_with (go_at_call 34; refine (word_any _ _ _ hs).mono ?_; rintro e w2 ⟨rfl, rfl⟩)
  go_ret2
  exact ⟨look_res HO.out (fun _ => by simp [holdV]; generalize wordAtS s ((m : Int) - 1) = p; generalize wordAtS s (m : Int) = q; cases p <;> cases q <;> rfl) (fun h => absurd rfl h), Below.refl _ _⟩
set_option maxHeartbeats 2000000 in
theorem lookT6 (B : Nat) (w0 w : World) (s : ByteArray) (hs : s.size ≤ 9223372036854775807) (hb : Below B w0 w) (hB : B ≤ w.heap.size) (hT : TabsAt B w0) (m : Nat) (e3 : m ≤ s.size) :
    Calls Tryd.prog 10 #[.int .i64 6, .string s, .int .i64 (m : Int), .bool true] w fun e w' => e = .returned (.tuple #[.bool (lookB 6 s (m : Int) true), .int .i64 (lookE 6 s (m : Int) true)]) ∧ Below w.heap.size w w' := by
  have HO : Hid (lookE 6 s (m : Int) true = 0) := Lib.hid (lookE_ok (by simp) (by simp; omega))
  go_enter Tryd.func10, Tryd.ntmps10
  go_wp2_with (go_at_call 34; refine (word_any _ _ _ hs).mono ?_; rintro e w2 ⟨rfl, rfl⟩)
  go_ret2
  exact ⟨look_res HO.out (fun _ => by simp [holdV]; generalize wordAtS s ((m : Int) - 1) = p; generalize wordAtS s (m : Int) = q; cases p <;> cases q <;> rfl) (fun h => absurd rfl h), Below.refl _ _⟩
set_option maxHeartbeats 2000000 in
theorem lookT7 (B : Nat) (w0 w : World) (s : ByteArray) (hs : s.size ≤ 9223372036854775807) (hb : Below B w0 w) (hB : B ≤ w.heap.size) (hT : TabsAt B w0) (m : Nat) (e3 : m ≤ s.size) :
    Calls Tryd.prog 10 #[.int .i64 7, .string s, .int .i64 (m : Int), .bool true] w fun e w' => e = .returned (.tuple #[.bool (lookB 7 s (m : Int) true), .int .i64 (lookE 7 s (m : Int) true)]) ∧ Below w.heap.size w w' := by
  have HO : Hid (lookE 7 s (m : Int) true = 0) := Lib.hid (lookE_ok (by simp) (by simp; omega))
  go_enter Tryd.func10, Tryd.ntmps10
  by_cases z : m = s.size
  · subst z
    go_wp2_with fail
    refine (next_end _ s hs).mono ?_
    rintro e w2 ⟨rfl, hb2⟩
    go_wp2
    go_ret2
    exact ⟨look_res HO.out (fun _ => by simp [holdV]) (fun h => absurd rfl h), hb2⟩
  · go_wp2_with fail
    refine (next_any _ s m hs (by omega)).mono ?_
    rintro e w2 ⟨rfl, hb2⟩
    go_wp2
    go_ret2
    exact ⟨look_res HO.out (fun _ => by simp [holdV, z]) (fun h => absurd rfl h), hb2⟩
set_option maxHeartbeats 2000000 in
theorem lookT8 (B : Nat) (w0 w : World) (s : ByteArray) (hs : s.size ≤ 9223372036854775807) (hb : Below B w0 w) (hB : B ≤ w.heap.size) (hT : TabsAt B w0) (m : Nat) (e3 : m ≤ s.size) :
    Calls Tryd.prog 10 #[.int .i64 8, .string s, .int .i64 (m : Int), .bool true] w fun e w' => e = .returned (.tuple #[.bool (lookB 8 s (m : Int) true), .int .i64 (lookE 8 s (m : Int) true)]) ∧ Below w.heap.size w w' := by
  have HO : Hid (lookE 8 s (m : Int) true = 0) := Lib.hid (lookE_ok (by simp) (by simp; omega))
  go_enter Tryd.func10, Tryd.ntmps10
  go_wp2_with fail
  refine (border_any B w0 _ s m hs hb hB hT).mono ?_
  rintro e w2 ⟨rfl, hb2⟩
  go_wp2
  go_ret2
  exact ⟨look_res HO.out (fun _ => by simp [holdV]) (fun h => absurd rfl h), hb2⟩
end Go.Proofs.YtmbboianghbjkaaDoor
