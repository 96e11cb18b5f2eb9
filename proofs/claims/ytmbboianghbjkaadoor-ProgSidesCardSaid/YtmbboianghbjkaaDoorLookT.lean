import Derived.Test.YtmbboianghbjkaaDoorLookA
namespace Go.Proofs.YtmbboianghbjkaaDoor
open Go.RowKit Go.Shelf
set_option linter.unusedVariables false
set_option linter.unusedSimpArgs false
attribute [local go_sem] bl_refl bl_alloc bl_a2 bl_a3 bl_a4 bl_a5 bl_set bl_drew bl_drewN le_add_r lt_add_r addr_add max2_i min2_i max_2 min_2

set_option maxHeartbeats 2000000 in
theorem lookT1 (B : Nat) (w0 w : World) (s : ByteArray) (hs : s.size ≤ 9223372036854775807) (hb : Below B w0 w) (hB : B ≤ w.heap.size) (hT : TabsAt B w0) (m : Nat) (e3 : m ≤ s.size) :
    Calls Tryd.prog 10 #[.int .i64 1, .string s, .int .i64 (m : Int), .bool true] w fun e w' => e = .returned (.tuple #[.bool (lookB 1 s (m : Int) true), .int .i64 (lookE 1 s (m : Int) true)]) ∧ Below w.heap.size w w' := by
  have HO : Hid (lookE 1 s (m : Int) true = 0) := Lib.hid (lookE_ok (by simp) (by simp; omega))
  go_enter Tryd.func10, Tryd.ntmps10
  by_cases z : m = 0
  · subst z
    go_wp2
    go_ret2
    exact ⟨look_res HO.out (fun _ => by simp [holdV]) (fun h => absurd rfl h), Below.refl _ _⟩
  · have z' : ((m : Int) == 0) = false := by simp [z]
    go_wp2
    go_ret2
    exact ⟨look_res HO.out (fun _ => by simp [holdV, z]) (fun h => absurd rfl h), Below.refl _ _⟩
set_option maxHeartbeats 2000000 in
theorem lookT2 (B : Nat) (w0 w : World) (s : ByteArray) (hs : s.size ≤ 9223372036854775807) (hb : Below B w0 w) (hB : B ≤ w.heap.size) (hT : TabsAt B w0) (m : Nat) (e3 : m ≤ s.size) :
    Calls Tryd.prog 10 #[.int .i64 2, .string s, .int .i64 (m : Int), .bool true] w fun e w' => e = .returned (.tuple #[.bool (lookB 2 s (m : Int) true), .int .i64 (lookE 2 s (m : Int) true)]) ∧ Below w.heap.size w w' := by
  have HO : Hid (lookE 2 s (m : Int) true = 0) := Lib.hid (lookE_ok (by simp) (by simp; omega))
  go_enter Tryd.func10, Tryd.ntmps10
  by_cases z : m = s.size
  · subst z
    go_wp2
    go_ret2
    exact ⟨look_res HO.out (fun _ => by simp [holdV]) (fun h => absurd rfl h), Below.refl _ _⟩
  · have z' : ((m : Int) == (s.size : Int)) = false := by simp; omega
    go_wp2
    go_ret2
    exact ⟨look_res HO.out (fun _ => by simp [holdV, z]) (fun h => absurd rfl h), Below.refl _ _⟩
set_option maxHeartbeats 2000000 in
theorem lookT3 (B : Nat) (w0 w : World) (s : ByteArray) (hs : s.size ≤ 9223372036854775807) (hb : Below B w0 w) (hB : B ≤ w.heap.size) (hT : TabsAt B w0) (m : Nat) (e3 : m ≤ s.size) :
    Calls Tryd.prog 10 #[.int .i64 3, .string s, .int .i64 (m : Int), .bool true] w fun e w' => e = .returned (.tuple #[.bool (lookB 3 s (m : Int) true), .int .i64 (lookE 3 s (m : Int) true)]) ∧ Below w.heap.size w w' := by
  have HO : Hid (lookE 3 s (m : Int) true = 0) := Lib.hid (lookE_ok (by simp) (by simp; omega))
  go_enter Tryd.func10, Tryd.ntmps10
  by_cases z : m = 0
  · subst z
    go_wp2
    go_ret2
    exact ⟨look_res HO.out (fun _ => by simp [holdV]) (fun h => absurd rfl h), Below.refl _ _⟩
  · have z' : ((m : Int) == 0) = false := by simp [z]
    obtain ⟨j, rfl⟩ : ∃ j, m = j + 1 := ⟨m - 1, by omega⟩
    have hj : j < s.size := by omega
    have hg := get_at s j hj
    go_wp2
    go_ret2
    exact ⟨look_res HO.out (fun _ => by simp [holdV, hg, beq10]; intro h; omega) (fun h => absurd rfl h), Below.refl _ _⟩
set_option maxHeartbeats 2000000 in
theorem lookT4 (B : Nat) (w0 w : World) (s : ByteArray) (hs : s.size ≤ 9223372036854775807) (hb : Below B w0 w) (hB : B ≤ w.heap.size) (hT : TabsAt B w0) (m : Nat) (e3 : m ≤ s.size) :
    Calls Tryd.prog 10 #[.int .i64 4, .string s, .int .i64 (m : Int), .bool true] w fun e w' => e = .returned (.tuple #[.bool (lookB 4 s (m : Int) true), .int .i64 (lookE 4 s (m : Int) true)]) ∧ Below w.heap.size w w' := by
  have HO : Hid (lookE 4 s (m : Int) true = 0) := Lib.hid (lookE_ok (by simp) (by simp; omega))
  go_enter Tryd.func10, Tryd.ntmps10
  by_cases z : m = s.size
  · subst z
    go_wp2
    go_ret2
    exact ⟨look_res HO.out (fun _ => by simp [holdV]) (fun h => absurd rfl h), Below.refl _ _⟩
  · have z' : ((m : Int) == (s.size : Int)) = false := by simp; omega
    have hj : m < s.size := by omega
    have hg := get_at s m hj
    go_wp2
    go_ret2
    exact ⟨look_res HO.out (fun _ => by simp [holdV, z, hg, beq10]) (fun h => absurd rfl h), Below.refl _ _⟩
end Go.Proofs.YtmbboianghbjkaaDoor
