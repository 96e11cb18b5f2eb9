import Derived.Test.YtmbboianghbjkaaDoorLookA
namespace Go.Proofs.YtmbboianghbjkaaDoor
open Go.RowKit Go.Shelf
set_option linter.unusedVariables false
set_option linter.unusedSimpArgs false
attribute [local go_sem] bl_refl bl_alloc bl_a2 bl_a3 bl_a4 bl_a5 bl_set bl_drew bl_drewN le_add_r lt_add_r addr_add max2_i min2_i max_2 min_2

set_option maxHeartbeats 2000000 in
theorem lookFbad (B : Nat) (w0 w : World) (s : ByteArray) (hs : s.size ≤ 9223372036854775807) (hb : Below B w0 w) (hB : B ≤ w.heap.size) (hT : TabsAt B w0) (n : Int) (d1 : 1 ≤ n) (d2 : n ≤ 6) (m : Nat) (e3 : m ≤ s.size) (hbd : border s (m : Int) = false) :
    Calls Tryd.prog 10 #[.int .i64 n, .string s, .int .i64 (m : Int), .bool false] w fun e w' => e = .returned (.tuple #[.bool (lookB n s (m : Int) false), .int .i64 (lookE n s (m : Int) false)]) ∧ Below w.heap.size w w' := by
  have HE : Hid (lookE n s (m : Int) false = 3) := Lib.hid (lookE_rng (by simp; omega) (.inr (.inr ⟨rfl, hbd⟩)))
  go_enter Tryd.func10, Tryd.ntmps10
  go_wp2_with fail
  refine (border_any B w0 _ s m hs hb hB hT).mono ?_
  rintro e w1 ⟨rfl, hb1⟩
  rw [hbd]
  go_wp2
  go_ret2
  exact ⟨look_res HE.out (by simp) (by simp), hb1⟩
set_option maxHeartbeats 2000000 in
theorem lookF1 (B : Nat) (w0 w : World) (s : ByteArray) (hs : s.size ≤ 9223372036854775807) (hb : Below B w0 w) (hB : B ≤ w.heap.size) (hT : TabsAt B w0) (m : Nat) (e3 : m ≤ s.size) (hbd : border s (m : Int) = true) :
    Calls Tryd.prog 10 #[.int .i64 1, .string s, .int .i64 (m : Int), .bool false] w fun e w' => e = .returned (.tuple #[.bool (lookB 1 s (m : Int) false), .int .i64 (lookE 1 s (m : Int) false)]) ∧ Below w.heap.size w w' := by
  have HO : Hid (lookE 1 s (m : Int) false = 0) := Lib.hid (lookE_ok (by simp) (by simp [hbd]; omega))
  go_enter Tryd.func10, Tryd.ntmps10
  go_wp2_with fail
  refine (border_any B w0 _ s m hs hb hB hT).mono ?_
  rintro e w1 ⟨rfl, hb1⟩
  rw [hbd]
  by_cases z : m = 0
  · subst z
    go_wp2
    go_ret2
    exact ⟨look_res HO.out (fun _ => by simp [holdV]) (fun h => absurd rfl h), hb1⟩
  · have z' : ((m : Int) == 0) = false := by simp [z]
    go_wp2
    go_ret2
    exact ⟨look_res HO.out (fun _ => by simp [holdV, z]) (fun h => absurd rfl h), hb1⟩
set_option maxHeartbeats 2000000 in
theorem lookF2 (B : Nat) (w0 w : World) (s : ByteArray) (hs : s.size ≤ 9223372036854775807) (hb : Below B w0 w) (hB : B ≤ w.heap.size) (hT : TabsAt B w0) (m : Nat) (e3 : m ≤ s.size) (hbd : border s (m : Int) = true) :
    Calls Tryd.prog 10 #[.int .i64 2, .string s, .int .i64 (m : Int), .bool false] w fun e w' => e = .returned (.tuple #[.bool (lookB 2 s (m : Int) false), .int .i64 (lookE 2 s (m : Int) false)]) ∧ Below w.heap.size w w' := by
  have HO : Hid (lookE 2 s (m : Int) false = 0) := Lib.hid (lookE_ok (by simp) (by simp [hbd]; omega))
  go_enter Tryd.func10, Tryd.ntmps10
  go_wp2_with fail
  refine (border_any B w0 _ s m hs hb hB hT).mono ?_
  rintro e w1 ⟨rfl, hb1⟩
  rw [hbd]
  by_cases z : m = s.size
  · subst z
    go_wp2
    go_ret2
    exact ⟨look_res HO.out (fun _ => by simp [holdV]) (fun h => absurd rfl h), hb1⟩
  · have z' : ((m : Int) == (s.size : Int)) = false := by simp; omega
    go_wp2
    go_ret2
    exact ⟨look_res HO.out (fun _ => by simp [holdV, z]) (fun h => absurd rfl h), hb1⟩
set_option maxHeartbeats 2000000 in
theorem lookF3 (B : Nat) (w0 w : World) (s : ByteArray) (hs : s.size ≤ 9223372036854775807) (hb : Below B w0 w) (hB : B ≤ w.heap.size) (hT : TabsAt B w0) (m : Nat) (e3 : m ≤ s.size) (hbd : border s (m : Int) = true) :
    Calls Tryd.prog 10 #[.int .i64 3, .string s, .int .i64 (m : Int), .bool false] w fun e w' => e = .returned (.tuple #[.bool (lookB 3 s (m : Int) false), .int .i64 (lookE 3 s (m : Int) false)]) ∧ Below w.heap.size w w' := by
  have HO : Hid (lookE 3 s (m : Int) false = 0) := Lib.hid (lookE_ok (by simp) (by simp [hbd]; omega))
  go_enter Tryd.func10, Tryd.ntmps10
  go_wp2_with fail
  refine (border_any B w0 _ s m hs hb hB hT).mono ?_
  rintro e w1 ⟨rfl, hb1⟩
  rw [hbd]
  by_cases z : m = 0
  · subst z
    go_wp2
    go_ret2
    exact ⟨look_res HO.out (fun _ => by simp [holdV]) (fun h => absurd rfl h), hb1⟩
  · have z' : ((m : Int) == 0) = false := by simp [z]
    obtain ⟨j, rfl⟩ : ∃ j, m = j + 1 := ⟨m - 1, by omega⟩
    have hj : j < s.size := by omega
    have hg := get_at s j hj
    go_wp2
    go_ret2
    exact ⟨look_res HO.out (fun _ => by simp [holdV, hg, beq10]; intro h; omega) (fun h => absurd rfl h), hb1⟩
end Go.Proofs.YtmbboianghbjkaaDoor
